import Derived.Test.YtjodiieeocaipaaGreatDoorSKeys
import Derived.Test.YtjodiieeocaipaaGreatDoorSRunz
import Derived.Test.YtjodiieeocaipaaGreatDoorSMarkz
import Derived.Test.YtjodiieeocaipaaGreatDoorSLogs
import Derived.Test.YtjodiieeocaipaaGreatDoorSDeds
import Derived.Shelf.SlMaps.Clone
import Derived.Test.YtjodiieeocaipaaGreatDoorSMakes
import Derived.Test.YtjodiieeocaipaaGreatDoorTwin
import Derived.Deep.RegionHeld3
import Derived.Maps.RangeWalk
import Derived.Sort.KeysCollected
import Derived.Laws.StructEq
import Derived.BigQuiet
import Derived.Test.YtjodiieeocaipaaGreatDoorSDdz
/-
  state.Topics.
-/
namespace Go.Proofs.YtjodiieeocaipaaGreatDoor
open Go.RowKit Go.Maps

theorem find_at {V : List TopW} (h : Sorted V) {k : Nat} {t : TopW} (hk : V[k]? = some t) : findW V t.name = some t := by
  unfold findW
  induction V generalizing k with
  | nil => cases hk
  | cons a r ih =>
    rw [List.find?_cons]
    cases k with
    | zero =>
      have e : a = t := by simpa using hk
      subst e
      rw [decide_eq_true rfl]
    | succ k =>
      have hk' : r[k]? = some t := by simpa using hk
      have hm := List.mem_of_getElem? hk'
      have hne : a.name ≠ t.name := fun e => by
        have := (List.pairwise_cons.1 h).1 t hm
        rw [e, WideAt.bytes_irrefl] at this
        cases this
      rw [decide_eq_false hne]
      exact ih (List.pairwise_cons.1 h).2 hk'
def TopW.row (t : TopW) : List Value := [.string t.name, .int .i64 t.ps.length]
theorem info_topic : (Tryz.prog.info? 58).map (fun i => (i.zero, i.size, i.bytes)) = some (some (.agg #[.string ⟨#[]⟩, .int .i64 0]), 2, 24) := by kernel_rfl
set_option maxRecDepth 100000 in
set_option maxHeartbeats 1000000 in
theorem stTopics_any {o : Nat → Option Who} {s N : Nat} {S : StW} {w : World} (h : StAt w o s N S) :
    Calls Tryz.prog 21 #[.pointer (some ⟨s, 0, none⟩)] w fun e w' => ∃ A c, e = .returned (.slice A S.V.length c) ∧ RdK w' 2 A S.V.length c (S.V.map TopW.row) ∧ Below w.heap.size w w' := by
  obtain ⟨ii, hi0, hz0, hs0, hy0⟩ := info_parts info_topic
  have c0 : w.cell? ⟨s, 0, none⟩ = some (.map (some S.tb)) := h.bk.cell 0
  have HI := Lib.hid hi0
  have HZ := Lib.hid hz0
  have HSz := Lib.hid hs0
  have HY := Lib.hid hy0
  have HKy := Lib.hid (keys_any (some S.tb) w)
  have HSo := Lib.hid (topics_sorted h.map h.sorted h.few)
  have HS := Lib.hid h
  clear h hi0 hz0 hs0 hy0
  go_enter Tryz.func21, Tryz.ntmps21
  go_wp2_with (first | (go_at_call 36; go_loud (with_reducible refine HKy.out.mono ?_); rintro er w1 ⟨rfl, rfl⟩) | (go_at_call 35; go_loud (with_reducible refine HSo.out.mono ?_); go_loud (rintro er w2 ⟨An, cn, rfl, hrn, hbn⟩); have HRn := Lib.hid hrn; have HBn := Lib.hid hbn; clear hrn hbn) | fail)
  go_loopw [3, 13] (fun o i wr => ∃ (k : Nat) (A3 : Option Addr) (c3 : Nat), k ≤ S.V.length ∧ i = .int .i64 k ∧ o = .slice A3 k c3 ∧ Hid (wr.ownsRow w2.heap.size 58 2 (.slice A3 k c3) k ((S.V.take k).flatMap TopW.row)) ∧ Hid (Below w2.heap.size w2 wr)) (fun _ i _ => S.V.length - (intOf i).toNat)
  case atStart => exact ⟨0, none, 0, Nat.zero_le _, rfl, rfl, World.ownsRow_nil _ _ _ _, Below.refl _ _⟩
  case round =>
    obtain ⟨k, A3, c3, hk, rfl, rfl, hOwn, hBel⟩ := hrel
    have h8 := HS.out.few
    by_cases hlt : k < S.V.length
    · have hi : (k : Int) < S.V.length := by omega
      obtain ⟨t, ht⟩ : ∃ t, S.V[k]? = some t := ⟨S.V[k], List.getElem?_eq_getElem hlt⟩
      have hbw := HBn.out.trans (below_le HBn.out.size hBel.out)
      have hSx := HS.out.ext hbw
      have hT := hSx.tops t (List.mem_of_getElem? ht)
      obtain ⟨ad, rfl, hadl, hce⟩ := (RdT.ext HRn.out hBel.out).cell k (.string t.name) (by rw [List.getElem?_map, List.getElem?_map, ht]; rfl)
      have hlk := topics_look hSx.map t.name (Nat.le_trans hT.short (by unfold maxLen; omega))
      rw [find_at hSx.sorted ht] at hlk
      obtain ⟨At, ct, hv, hct, hct2, _⟩ := parts_cell hT.row
      replace hlk : (Instr.lookup 62 (.map (some S.tb)) (.string t.name) false).run Tryz.prog wr = .ok (.slice At t.ps.length ct) wr := by rw [← hv]; exact hlk
      have c1 : wr.cell? ⟨s, 0, none⟩ = some (.map (some S.tb)) := hSx.bk.cell 0
      have hps := hT.few
      have HT := Lib.hid ht
      clear hSx hT hv hct hct2 ht hadl hbw
      go_wp2_with (first | (at_builtin; go_loud (refine wpList_append_gen rfl (.tmp 17) (.tmp 27) 55 rfl 58 ii _ 2 24 Tryz.underlying55 HI.out HZ.out HSz.out HY.out rfl (by omega) w2.heap.size w2 _ k ((S.V.take k).flatMap TopW.row) rfl (World.ownsRow.alloc hOwn.out _) ⟨wr.heap.size, 0, none⟩ 1 1 [.string t.name, .int .i64 t.ps.length] rfl rfl (cells_newm wr _ (0, 0) _ _ rfl _ rfl) (one_all rfl) (by unfold maxLen; omega) (by omega) (hBel.out.alloc hBel.out.size _) (Nat.le_trans hBel.out.size (by simp)) ?_); go_loud (intro A6 c6 w6 ho6 hg6 hx6 hb6 hs6)) | fail)
      refine ⟨⟨k + 1, A6, c6, by omega, by go_num, rfl, ?_, hb6⟩, by simp [intOf]; omega⟩
      rw [List.take_add_one, HT.out, List.flatMap_append]
      exact ho6.out
    · obtain rfl : k = S.V.length := by omega
      have hi : ¬ (S.V.length : Int) < S.V.length := by omega
      have hrd := RdK.of_own TopW.row (fun _ => rfl) (by omega) _ hOwn.out
      rw [List.take_length] at hrd
      have HRd := Lib.hid hrd
      clear hrd
      go_wp2_with fail
      go_ret
      exact ⟨_, _, rfl, HRd.out, HBn.out.trans (below_le HBn.out.size hBel.out)⟩
/-- the topics' names, and how many partitions they have -/
def rowM (t : ByteArray × List PartM) : List Value := [.string t.1, .int .i64 t.2.length]
/-- the topics of a State in a law's hands -/
theorem run_topics {w0 w : World} {s N : Nat} {M : StM} {K : Nat → Prop} (h : Run w0 w s N M K) :
    Calls Tryz.prog 21 #[.pointer (some ⟨s, 0, none⟩)] w fun e w' => ∃ A c, e = .returned (.slice A M.top.length c) ∧ RdK w' 2 A M.top.length c (M.top.map rowM) ∧ Below w.heap.size w w' := by
  obtain ⟨o, S, h1, rfl, _⟩ := h
  refine (stTopics_any h1).mono ?_
  rintro er w' ⟨A, c, rfl, hr, hb⟩
  have e1 : S.m.top.length = S.V.length := by show (S.V.map _).length = _; simp
  have e2 : S.m.top.map rowM = S.V.map TopW.row := by
    show (S.V.map TopW.m).map rowM = _
    rw [List.map_map]
    refine List.map_congr_left fun t _ => ?_
    show [Value.string t.name, Value.int .i64 ((t.ps.map PartW.m).length : Int)] = _
    rw [List.length_map]
    rfl
  rw [e1, e2]
  exact ⟨A, c, rfl, hr, hb⟩
/-- the names stand in their order -/
theorem run_sorted {w0 w : World} {s N : Nat} {M : StM} {K : Nat → Prop} (h : Run w0 w s N M K) : M.top.Pairwise (fun a b => bytesBefore (namL a.1) (namL b.1) = true) := by
  obtain ⟨o, S, h1, rfl, _⟩ := h
  show (S.V.map TopW.m).Pairwise _
  rw [List.pairwise_map]
  exact h1.sorted
end Go.Proofs.YtjodiieeocaipaaGreatDoor

/-
  stavelaw21: StateTopics: what the model says of topics made one after the other.
-/
namespace Go.Proofs.YtjodiieeocaipaaGreatDoor
open Go.RowKit Go.Maps

theorem wd_ok12 : ((List.range 12).all fun j => nameOk (wd j)) = true := by decide +kernel
theorem wd_okT {j : Nat} (h : j < 12) : nameOk (wd j) = true := List.all_eq_true.1 wd_ok12 j (List.mem_range.2 h)
theorem right_create {t : ByteArray} {p f : Int} (ht : nameOk t = true) (hp : 1 ≤ p ∧ p ≤ 4) (hf : 0 ≤ f ∧ f ≤ 9223372036854775807) : rightE ⟨1, t, nul, 0, p, f, 0, noB⟩ = true := by
  have h1 := nameOk_pos ht
  have e1 : fldsE 1 = [nameF, nF 1 1 4, offF] := rfl
  have e2 : valsE ⟨1, t, nul, 0, p, f, 0, noB⟩ = [sV t, nV p, nV f] := rfl
  unfold rightE
  dsimp only
  rw [e1, e2]
  have e3 : okAll [nameF, nF 1 1 4, offF] [sV t, nV p, nV f] = true := by
    simp [okAll, fitsV, nameF, offF, nF, sF, sV, nV, inF, nul]
    exact ⟨by omega, ⟨by omega, rfl⟩, by omega, rfl⟩
  have e4 : namesE ⟨1, t, nul, 0, p, f, 0, noB⟩ = true := by simp [namesE, ht]
  have e5 : madeE 1 [sV t, nV p, nV f] = ⟨1, t, nul, 0, p, f, 0, noB⟩ := rfl
  have e6 : sameR ⟨1, t, nul, 0, p, f, 0, noB⟩ ⟨1, t, nul, 0, p, f, 0, noB⟩ = true ∧ sameB noB noB = true := same_iff.2 rfl
  rw [e3, e4, e5, e6.1]
  exact e6.2
def entT (j : Nat) (f : Int) : Ent := ⟨1, wd j, nul, 0, 1 + (j : Int) % 4, f, 0, noB⟩
theorem right_T {j : Nat} (h : j < 12) {f : Int} (hf : 0 ≤ f ∧ f ≤ 9223372036854775807) : rightE (entT j f) = true := right_create (wd_okT h) (by omega) hf
def anyN (L : List ByteArray) (n : ByteArray) : Bool := L.any (fun x => decide (x = n))
/-- the topics that stand, beside the list of names -/
structure TopI (M : StM) (L : List ByteArray) (f : Int) : Prop where
  len : M.top.length = L.length
  mem : ∀ n, hasT M.top n = anyN L n
  each : ∀ t ∈ M.top, ∃ j, j < 12 ∧ t = (wd j, List.replicate (1 + j % 4) (newPart f))
theorem topI_start (f : Int) : TopI newSt [] f := ⟨rfl, fun _ => rfl, fun _ h => absurd h List.not_mem_nil⟩
theorem ins_len {x : ByteArray × List PartM} {T : TopM} : (insT x T).length = T.length + 1 := by
  induction T with
  | nil => rfl
  | cons t r ih =>
    unfold insT
    split
    · rfl
    · simp [ih]
theorem ins_mem {x y : ByteArray × List PartM} {T : TopM} : y ∈ insT x T ↔ y = x ∨ y ∈ T := by
  induction T with
  | nil => simp [insT]
  | cons t r ih =>
    unfold insT
    split
    · simp
    · simp only [List.mem_cons, ih]
      constructor
      · rintro (h | h | h)
        · exact .inr (.inl h)
        · exact .inl h
        · exact .inr (.inr h)
      · rintro (h | h | h)
        · exact .inr (.inl h)
        · exact .inl h
        · exact .inr (.inr h)
theorem has_ins {x : ByteArray × List PartM} {T : TopM} {n : ByteArray} : hasT (insT x T) n = (hasT T n || decide (x.1 = n)) := by
  rw [Bool.eq_iff_iff]
  unfold hasT
  simp only [List.any_eq_true, Bool.or_eq_true, decide_eq_true_eq]
  constructor
  · rintro ⟨t, ht, e⟩
    rcases ins_mem.1 ht with rfl | ht
    · exact .inr e
    · exact .inl ⟨t, ht, e⟩
  · rintro (⟨t, ht, e⟩ | e)
    · exact ⟨t, ins_mem.2 (.inr ht), e⟩
    · exact ⟨x, ins_mem.2 (.inl rfl), e⟩
theorem any_snoc (L : List ByteArray) (x n : ByteArray) : anyN (L ++ [x]) n = (anyN L n || decide (x = n)) := by
  unfold anyN
  simp
theorem top_there {M : StM} {L : List ByteArray} {f : Int} (h : TopI M L f) {j : Nat} (hj : j < 12) (hf : 0 ≤ f ∧ f ≤ 9223372036854775807) {i : Int} (hi : 0 ≤ i) (ht : anyN L (wd j) = true) : applyM M (entT j f) 0 i = (M, ⟨0, 0, false⟩, 9) := by
  rw [applyM_ok (right_T hj hf) (by decide) hi, app1 (e := entT j f) rfl]
  unfold creM
  rw [if_pos (by show hasT M.top (wd j) = true; rw [h.mem]; exact ht)]
  rfl
theorem top_full {M : StM} {L : List ByteArray} {f : Int} (h : TopI M L f) {j : Nat} (hj : j < 12) (hf : 0 ≤ f ∧ f ≤ 9223372036854775807) {i : Int} (hi : 0 ≤ i) (ht : anyN L (wd j) = false) (h8 : 8 ≤ L.length) : applyM M (entT j f) 0 i = (M, ⟨0, 0, false⟩, 8) := by
  rw [applyM_ok (right_T hj hf) (by decide) hi, app1 (e := entT j f) rfl]
  unfold creM
  rw [if_neg (by show ¬ hasT M.top (wd j) = true; rw [h.mem, ht]; decide), if_pos (by rw [h.len]; exact h8)]
  rfl
theorem top_new {M : StM} {L : List ByteArray} {f : Int} (h : TopI M L f) {j : Nat} (hj : j < 12) (hf : 0 ≤ f ∧ f ≤ 9223372036854775807) {i : Int} (hi : 0 ≤ i) (ht : anyN L (wd j) = false) (h8 : L.length < 8) : ∃ M', applyM M (entT j f) 0 i = (M', ⟨0, 0, false⟩, 0) ∧ TopI M' (L ++ [wd j]) f := by
  refine ⟨⟨insT (wd j, List.replicate (1 + j % 4) (newPart f)) M.top, M.grp⟩, ?_, ⟨?_, fun n => ?_, fun t ht2 => ?_⟩⟩
  · rw [applyM_ok (right_T hj hf) (by decide) hi, app1 (e := entT j f) rfl]
    unfold creM
    rw [if_neg (by show ¬ hasT M.top (wd j) = true; rw [h.mem, ht]; decide), if_neg (by rw [h.len]; omega)]
    have e : (entT j f).parts.toNat = 1 + j % 4 := by
      show (1 + (j : Int) % 4).toNat = _
      omega
    rw [e]
    rfl
  · show (insT _ M.top).length = _
    rw [ins_len, h.len]
    simp
  · show hasT (insT _ M.top) n = _
    rw [has_ins, h.mem, any_snoc]
  · rcases ins_mem.1 ht2 with rfl | ht2
    · exact ⟨j, hj, rfl⟩
    · exact h.each t ht2
/-- a topic that stands, found by its name -/
theorem find_mem {T : TopM} (h : T.Pairwise (fun a b => bytesBefore (namL a.1) (namL b.1) = true)) {t : ByteArray × List PartM} (ht : t ∈ T) : findT T t.1 = some t.2 := by
  unfold findT
  induction T with
  | nil => exact absurd ht List.not_mem_nil
  | cons a r ih =>
    rw [List.find?_cons]
    by_cases he : a.1 = t.1
    · rw [decide_eq_true he]
      rcases List.mem_cons.1 ht with rfl | ht
      · rfl
      · have := (List.pairwise_cons.1 h).1 t ht
        rw [he, WideAt.bytes_irrefl] at this
        cases this
    · rw [decide_eq_false he]
      rcases List.mem_cons.1 ht with rfl | ht
      · exact absurd rfl he
      · exact ih (List.pairwise_cons.1 h).2 ht
theorem top_part {T : TopM} (h : T.Pairwise (fun a b => bytesBefore (namL a.1) (namL b.1) = true)) {n : ByteArray} {m : Nat} {P : PartM} (ht : (n, List.replicate m P) ∈ T) {k : Nat} (hk : k < m) : partT T n (k : Int) = some P := by
  unfold partT
  rw [if_pos (by omega), find_mem h ht]
  show (List.replicate m P)[(k : Int).toNat]? = some P
  rw [Int.toNat_natCast, List.getElem?_replicate, if_pos hk]
end Go.Proofs.YtjodiieeocaipaaGreatDoor

/-
  index.Head; plog.Twin.
-/
namespace Go.Proofs.YtjodiieeocaipaaGreatDoor
open Go.RowKit Go.Maps

set_option maxRecDepth 100000 in
set_option maxHeartbeats 1000000 in
theorem logTwin_any {P : Nat → Prop} {lb : Nat} {L : LogM} {w : World} (h : LogAt w P lb L) (hs : L.heads.length ≤ 1000000) :
    Calls Tryz.prog 38 #[.pointer (some ⟨lb, 0, none⟩)] w fun e w' => ∃ tb, e = .returned (.pointer (some ⟨tb, 0, none⟩)) ∧ LogAt w' (fun i => w.heap.size ≤ i) tb L ∧ Below w.heap.size w w' := by
  obtain ⟨⟨ib, hb, hi⟩, hp⟩ := h
  have HBk := Lib.hid hb
  have HIx := Lib.hid hi
  have HNw : Hid (∀ v, Below w.heap.size w v → Calls Tryz.prog 65 #[.int .i64 4] v fun e w' => e = .returned (.pointer (some ⟨v.heap.size, 0, none⟩)) ∧ IdxAt w' (fun i => w.heap.size ≤ i) v.heap.size [] ∧ Below w.heap.size w w') := fun v hv =>
    (idxNew_any v).mono fun e w' h => ⟨h.1, h.2.1.more (fun i _ hq => Nat.le_trans hv.size hq), hv.trans (below_le hv.size h.2.2)⟩
  have FS : Hid (∀ v, Below w.heap.size w v → Below w.heap.size w v ∧ v.cell? ⟨lb, 1, none⟩ = some (.int .i64 L.start) ∧ v.cell? ⟨lb, 2, none⟩ = some (.int .i64 L.next)) := fun v hv => ⟨hv, (hb.ext hv).cell 1, (hb.ext hv).cell 2⟩
  have F0 : Hid (Below w.heap.size w w.drew) := below_drew1 (Below.refl _ _)
  clear hb hi hp
  go_enter Tryz.func38, Tryz.ntmps38
  go_upto_region 1 with fail
  go_region_held3 (fun v => Below w.heap.size w v ∧ v.cell? ⟨lb, 1, none⟩ = some (.int .i64 L.start) ∧ v.cell? ⟨lb, 2, none⟩ = some (.int .i64 L.next)) (first | exact FS.out _ F0.out | exact FS.out _ HB1.out | exact FS.out _ (HB1.out.alloc HB1.out.size _)) (first | (go_at_call 65; go_loud (with_reducible refine (HNw.out _ (by first | exact F0.out | exact (by assumption : _ ∧ _ ∧ _).1)).mono ?_); go_loud (rintro er w1 ⟨rfl, hi1, hb1⟩); have HI1 := Lib.hid hi1; have HB1 := Lib.hid hb1; clear hi1 hb1) | fail)
  all_goals
    have hk2 := Bk.made w1 81 #[.pointer (some ⟨w.heap.size, 0, none⟩), .int .i64 L.start, .int .i64 L.next]
    have hb2 := below_new w1 (.cells #[.pointer (some ⟨w.heap.size, 0, none⟩), .int .i64 L.start, .int .i64 L.next] 81)
    have HTw : Hid (LogAt (w1.alloc (.cells #[.pointer (some ⟨w.heap.size, 0, none⟩), .int .i64 L.start, .int .i64 L.next] 81)) (fun i => w.heap.size ≤ i) w1.heap.size ⟨L.start, L.next, L.heads.take 0⟩) := ⟨⟨_, hk2, HI1.out.ext hb2⟩, HB1.out.size⟩
    have HBl := Lib.hid (HB1.out.trans (below_le HB1.out.size hb2))
    clear hk2 hb2
    obtain ⟨tb, htb⟩ : ∃ t, t = w1.heap.size := ⟨_, rfl⟩
    rw [← htb] at HTw ⊢
    generalize w1.alloc (.cells #[.pointer (some ⟨w.heap.size, 0, none⟩), .int .i64 L.start, .int .i64 L.next] 81) = X at HTw HBl ⊢
    clear HI1 HB1 FS F0 HNw htb
    have c0 : X.cell? ⟨lb, 0, none⟩ = some (.pointer (some ⟨ib, 0, none⟩)) := (HBk.out.ext HBl.out).cell 0
    have HLn := Lib.hid (idxLen_any P ib L.heads X (HIx.out.ext HBl.out))
    go_wp2_with (first | (go_at_call 34; with_reducible refine HLn.out.mono ?_; rintro er w5 ⟨rfl, rfl⟩) | fail)
    go_loopw [21] (fun i wr => ∃ k : Nat, k ≤ L.heads.length ∧ i = .int .i64 k ∧ Hid (LogAt wr (fun i => w.heap.size ≤ i) tb ⟨L.start, L.next, L.heads.take k⟩) ∧ Hid (Below w.heap.size w wr)) (fun i _ => L.heads.length - (intOf i).toNat)
    case atStart => exact ⟨0, Nat.zero_le _, rfl, HTw, HBl⟩
    case round =>
      obtain ⟨k, hk, rfl, hTw, hBl⟩ := hrel
      clear HTw HBl c0 HLn
      by_cases hlt : k < L.heads.length
      · have hi : (k : Int) < L.heads.length := by omega
        obtain ⟨x, hx⟩ : ∃ x, L.heads[k]? = some x := ⟨L.heads[k], List.getElem?_eq_getElem hlt⟩
        obtain ⟨⟨jb, hbk, hix⟩, hown⟩ := hTw.out
        have hix2 := hix.but hbk (by decide) (by decide) (by decide)
        have HBt := Lib.hid hbk
        have HIt := Lib.hid hix2
        have HHd := Lib.hid (idxHead_any P ib L.heads k x hx wr.drew ((HIx.out.ext hBl.out).ext (below_drew1 (Below.refl _ _))))
        have FS : Hid (∀ v, (Below w.heap.size w v ∧ Bk v tb 81 #[.pointer (some ⟨jb, 0, none⟩), .int .i64 L.start, .int .i64 L.next]) → Below w.heap.size w v ∧ v.cell? ⟨tb, 0, none⟩ = some (.pointer (some ⟨jb, 0, none⟩)) ∧ v.cell? ⟨lb, 0, none⟩ = some (.pointer (some ⟨ib, 0, none⟩))) := fun v hv => ⟨hv.1, hv.2.cell 0, (HBk.out.ext hv.1).cell 0⟩
        have F0 : Hid (Below w.heap.size w wr.drew ∧ Bk wr.drew tb 81 #[.pointer (some ⟨jb, 0, none⟩), .int .i64 L.start, .int .i64 L.next]) := ⟨hBl.out.trans (below_le hBl.out.size (below_drew1 (Below.refl _ _))), hbk.drawn1⟩
        have HX := Lib.hid hx
        have HOw := Lib.hid hown
        clear hbk hix hix2 hown hTw hx
        go_upto_region 5 with fail
        go_region_held3 (fun v => Below w.heap.size w v ∧ v.cell? ⟨tb, 0, none⟩ = some (.pointer (some ⟨jb, 0, none⟩)) ∧ v.cell? ⟨lb, 0, none⟩ = some (.pointer (some ⟨ib, 0, none⟩))) (first | exact FS.out _ F0.out | exact FS.out _ HC4.out | exact FS.out _ HC6.out) (first | (go_at_call 67; go_loud (with_reducible refine HHd.out.mono ?_); go_loud (rintro er w4 ⟨rfl, hb4⟩); have HC4 : Hid (Below w.heap.size w w4 ∧ Bk w4 tb 81 #[.pointer (some ⟨jb, 0, none⟩), .int .i64 L.start, .int .i64 L.next]) := ⟨F0.out.1.trans (below_le F0.out.1.size hb4), F0.out.2.ext hb4⟩; have HAd := Lib.hid (idxAdd_any _ jb _ x w4 ((IdxAt.ext HIt.out (below_drew1 (Below.refl _ _))).ext hb4) (by rw [List.length_take]; omega)); clear hb4) | (go_at_call 66; go_loud (with_reducible refine HAd.out.mono ?_); go_loud (rintro er w6 ⟨rfl, hi6, ht6⟩); have HC6 : Hid (Below w.heap.size w w6 ∧ Bk w6 tb 81 #[.pointer (some ⟨jb, 0, none⟩), .int .i64 L.start, .int .i64 L.next]) := ⟨ht6.below HC4.out.1 HC4.out.1.size (fun i hi => hi.1), HC4.out.2.turned ht6 (fun hq => hq.2 rfl)⟩; have HI6 := Lib.hid hi6; clear hi6 ht6) | fail)
        all_goals
          go_wp2_with fail
          refine ⟨⟨k + 1, by omega, by go_num, ?_, HC6.out.1⟩, by simp [intOf]; omega⟩
          rw [List.take_add_one, HX.out]
          refine ⟨⟨jb, HC6.out.2, HI6.out.more (fun i _ hq => ?_)⟩, HOw.out⟩
          rcases hq with hq | hq
          · exact hq.1
          · exact Nat.le_trans HC4.out.1.size hq
      · obtain rfl : k = L.heads.length := by omega
        have hi : ¬ (L.heads.length : Int) < L.heads.length := by omega
        have hfin := hTw.out
        rw [List.take_length] at hfin
        have HFin := Lib.hid hfin
        clear hfin
        go_wp2_with fail
        go_ret
        exact ⟨tb, rfl, HFin.out, hBl.out⟩
end Go.Proofs.YtjodiieeocaipaaGreatDoor

/-
  plog.From; dedup.Twin.
-/
namespace Go.Proofs.YtjodiieeocaipaaGreatDoor
open Go.RowKit Go.Maps

/-- the heads from the log's start on -/
def fromM (L : LogM) : List Hd := L.heads.drop (seekM L.heads L.start)
set_option maxRecDepth 100000 in
set_option maxHeartbeats 1000000 in
theorem logFrom_any {P : Nat → Prop} {lb : Nat} {L : LogM} {N : Nat} {w : World} (h : LogAt w P lb L) (hok : L.Ok N) (hN : N ≤ 1000000) :
    Calls Tryz.prog 41 #[.pointer (some ⟨lb, 0, none⟩), .int .i64 L.start] w fun e w' => ∃ A c, e = .returned (.tuple #[.slice A (fromM L).length c, .nilIface]) ∧ RdK w' 5 A (fromM L).length c ((fromM L).map Hd.cells) ∧ Below w.heap.size w w' := by
  obtain ⟨⟨ib, hb, hi⟩, hp⟩ := h
  obtain ⟨ii, hi0, hz0, hs0, hy0⟩ := info_parts info_hd
  have HI := Lib.hid hi0
  have HZ := Lib.hid hz0
  have HSz := Lib.hid hs0
  have HY := Lib.hid hy0
  have HBk := Lib.hid hb
  have HIx := Lib.hid hi
  have hlen : L.heads.length ≤ 1000000 := Nat.le_trans hok.few hN
  have hst := hok.start0
  have hle := hok.le
  have hbig := hok.big
  have HSk := Lib.hid (idxSeek_any P ib N L L.start w hi hok hN ⟨hst, by omega⟩)
  have c0 : w.cell? ⟨lb, 0, none⟩ = some (.pointer (some ⟨ib, 0, none⟩)) := hb.cell 0
  have c1 : w.cell? ⟨lb, 1, none⟩ = some (.int .i64 L.start) := hb.cell 1
  have c2 : w.cell? ⟨lb, 2, none⟩ = some (.int .i64 L.next) := hb.cell 2
  have hn1 : ¬ L.start < L.start := by omega
  have hn2 : ¬ L.next < L.start := by omega
  obtain ⟨s0, hs0'⟩ : ∃ s, seekM L.heads L.start = s := ⟨_, rfl⟩
  have hfr : fromM L = L.heads.drop s0 := by unfold fromM; rw [hs0']
  have hsl : s0 ≤ L.heads.length := by rw [← hs0']; exact List.findIdx_le_length
  rw [hs0'] at HSk
  rw [hfr]
  have HLen : Hid ((L.heads.drop s0).length = L.heads.length - s0) := List.length_drop
  clear hb hi hp hok hN hst hle hbig hi0 hz0 hs0 hy0 hs0' hfr
  go_enter Tryz.func41, Tryz.ntmps41
  go_wp2_with (first | (go_at_call 69; go_loud (with_reducible refine HSk.out.mono ?_); go_loud (rintro er w1 ⟨rfl, hb1⟩); have HB1 := Lib.hid hb1; clear hb1) | fail)
  go_loopw [6, 7] (fun o i wr => ∃ (j : Nat) (A3 : Option Addr) (c3 : Nat), j ≤ L.heads.length - s0 ∧ i = .int .i64 ((s0 + j : Nat) : Int) ∧ o = .slice A3 j c3 ∧ Hid (wr.ownsRow w.heap.size 95 5 (.slice A3 j c3) j (((L.heads.drop s0).take j).flatMap Hd.cells)) ∧ Hid (Below w.heap.size w wr)) (fun _ i _ => L.heads.length - (intOf i).toNat)
  case atStart => exact ⟨0, none, 0, by omega, rfl, rfl, World.ownsRow_nil _ _ _ _, HB1.out⟩
  case round =>
    obtain ⟨j, A3, c3, hj, rfl, rfl, hOwn, hBel⟩ := hrel
    clear HB1
    obtain ⟨k, hk⟩ : ∃ k, k = s0 + j := ⟨_, rfl⟩
    rw [← hk]
    have HK := Lib.hid hk
    have d0 : wr.cell? ⟨lb, 0, none⟩ = some (.pointer (some ⟨ib, 0, none⟩)) := (HBk.out.ext hBel.out).cell 0
    have HLn := Lib.hid (idxLen_any P ib L.heads wr (HIx.out.ext hBel.out))
    by_cases hlt : k < L.heads.length
    · have hi : (k : Int) < L.heads.length := by omega
      obtain ⟨x, hx⟩ : ∃ x, L.heads[k]? = some x := ⟨L.heads[k], List.getElem?_eq_getElem hlt⟩
      have HHd := Lib.hid (idxHead_any P ib L.heads k x hx wr (HIx.out.ext hBel.out))
      have hjx : (L.heads.drop s0)[j]? = some x := by rw [List.getElem?_drop, ← hk]; exact hx
      have HX := Lib.hid hjx
      clear hx hjx hk
      go_wp2_with (first | (go_at_call 34; with_reducible refine HLn.out.mono ?_; rintro er w5 ⟨rfl, rfl⟩) | (go_at_call 67; go_loud (with_reducible refine HHd.out.mono ?_); go_loud (rintro er w4 ⟨rfl, hb4⟩); have HO4 : Hid (w4.ownsRow w.heap.size 95 5 (.slice A3 j c3) j (((L.heads.drop s0).take j).flatMap Hd.cells)) := World.ownsRow.kept hOwn.out (grown_of_below hb4) (Classical.em _); have HB4 := Lib.hid (hBel.out.trans (below_le hBel.out.size hb4)); clear hb4) | (at_builtin; go_loud (refine wpList_append_gen rfl (.tmp 39) (.tmp 46) 90 rfl 95 ii _ 5 40 Tryz.underlying90 HI.out HZ.out HSz.out HY.out rfl (by omega) w.heap.size w _ j (((L.heads.drop s0).take j).flatMap Hd.cells) rfl (World.ownsRow.alloc HO4.out _) ⟨w4.heap.size, 0, none⟩ 1 1 x.cells rfl rfl (cells_newm w4 _ (0, 0) _ _ rfl _ rfl) (hd_one x) (by unfold maxLen; omega) (by omega) (HB4.out.alloc HB4.out.size _) (Nat.le_trans HB4.out.size (by simp)) ?_); go_loud (intro A6 c6 w6 ho6 hg6 hx6 hb6 hs6)) | fail)
      refine ⟨⟨j + 1, A6, c6, by have := HK.out; omega, ?_, rfl, ?_, hb6⟩, by simp [intOf]; omega⟩
      · rw [HK.out]
        congr 1
      · rw [List.take_add_one, HX.out, List.flatMap_append]
        exact ho6.out
    · have hi : ¬ (k : Int) < L.heads.length := by omega
      have hjl : j = (L.heads.drop s0).length := by have := HLen.out; have := HK.out; omega
      have hrd := RdK.of_own Hd.cells (fun _ => rfl) (by omega) _ hOwn.out
      rw [List.take_of_length_le (by omega)] at hrd
      rw [hjl] at hrd
      have HRd := Lib.hid hrd
      have HJ := Lib.hid hjl
      clear hrd hjl hk
      go_wp2_with (first | (go_at_call 34; with_reducible refine HLn.out.mono ?_; rintro er w5 ⟨rfl, rfl⟩) | fail)
      go_ret2
      exact ⟨A3, c3, by rw [HJ.out]; rfl, HRd.out, hBel.out⟩
set_option maxRecDepth 100000 in
theorem dclone_any (b : Nat) (es : Array MapEntry) (clock : Nat) (w : World) (hb : w.heap[b]? = some (.map es clock)) :
    Calls Tryz.prog 68 #[.map (some b)] w fun e w' => e = .returned (.map (some w.heap.size)) ∧ w' = w.alloc (.map es clock) := by
  have hq := fun w => run_eql_map_nil_sl (P := Tryz.prog) w 142 _ _ (some b) Tryz.underlying142
  have hx := @run_callFunc_extern Tryz.prog 92 _ Extern.MapsClone.clone Tryz.func92 (by kernel_rfl) (by kernel_rfl) (by kernel_rfl) (by kernel_rfl)
  have hcl := run_maps_clone_sl (P := Tryz.prog) w 142 hb
  have hta := fun w v => run_typeAssert_map_sl (P := Tryz.prog) w 142 20 _ _ v Tryz.underlying142
  go_enter Tryz.func68, Tryz.ntmps68
  go_wp2
  go_ret
  exact ⟨rfl, rfl⟩
set_option maxRecDepth 100000 in
theorem dedTwin_any {P : Nat → Prop} {db N : Nat} {d : DedM} {w : World} (h : DedAt w P db N d) :
    Calls Tryz.prog 39 #[.pointer (some ⟨db, 0, none⟩)] w fun e w' => ∃ tb, e = .returned (.pointer (some ⟨tb, 0, none⟩)) ∧ DedAt w' (fun i => w.heap.size ≤ i) tb N d ∧ Below w.heap.size w w' := by
  obtain ⟨⟨mb, D, hb, hm, hs, hp⟩, hq⟩ := h
  have c0 : w.cell? ⟨db, 0, none⟩ = some (.map (some mb)) := hb.cell 0
  obtain ⟨es, clock, hbm, hf, hs2, he⟩ := hm
  have hC := Lib.hid (dclone_any mb es clock w hbm)
  have hN : (w.alloc (.map es clock)).ownsMap Tryz.prog 3 rawElem w.heap.size N D := ⟨es, clock, heap_alloc_new w _, hf, hs2, he⟩
  have HN := Lib.hid hN
  have HSe := Lib.hid hs
  clear hN hbm hf hs2 he hs hb
  go_enter Tryz.func39, Tryz.ntmps39
  go_wp2_with (first | (go_at_call 68; refine hC.out.mono ?_; rintro e w1 ⟨rfl, rfl⟩) | fail)
  go_ret
  have hb2 := below_new (w.alloc (.map es clock)) (.cells #[.map (some w.heap.size)] 147)
  have hk := Bk.made (w.alloc (.map es clock)) 147 #[.map (some w.heap.size)]
  rw [show (w.alloc (.map es clock)).heap.size = w.heap.size + 1 by simp] at hk
  exact ⟨_, rfl, ⟨⟨w.heap.size, D, hk, map_turned (P := fun _ => False) HN.out (Turned.of_below hb2) id, HSe.out, Nat.le_refl _⟩, by simp⟩, (below_new w _).trans (below_le (by simp) hb2)⟩
end Go.Proofs.YtjodiieeocaipaaGreatDoor

/-
  A State under which a partition comes into a topic.
-/
namespace Go.Proofs.YtjodiieeocaipaaGreatDoor
open Go.RowKit Go.Maps

def curV (V : List TopW) (n : ByteArray) : Value := match findW V n with | some t => t.v | none => .slice none 0 0
def curP (V : List TopW) (n : ByteArray) : List PartW := match findW V n with | some t => t.ps | none => []
def notN (n : ByteArray) (V : List TopW) : List TopW := V.filter (fun t => !decide (t.name = n))
structure CurAt (w : World) (o : Nat → Option Who) (N : Nat) (n : ByteArray) (v : Value) (ps : List PartW) : Prop where
  row : w.ownsRow 0 78 2 v ps.length (ps.flatMap PartW.cells)
  own : ∀ g, v.ownBlock = some g → o g = some (.topic n)
  log : ∀ k p, ps[k]? = some p → LogAt w (fun i => o i = some (.part n k)) p.lb p.m.log ∧ p.m.log.Ok N
  ded : ∀ k p, ps[k]? = some p → DedAt w (fun i => o i = some (.part n k)) p.db N p.m.ded ∧ DedOk p.m.ded
theorem StAt.cur {o : Nat → Option Who} {s N : Nat} {S : StW} {w : World} (h : StAt w o s N S) (n : ByteArray) : CurAt w o N n (curV S.V n) (curP S.V n) := by
  unfold curV curP
  cases hf : findW S.V n with
  | none => exact ⟨World.ownsRow_nil _ _ _ _, (fun g e => by cases e), (fun k p e => by simp at e), (fun k p e => by simp at e)⟩
  | some t =>
    obtain ⟨hm, rfl⟩ := findW_mem hf
    have ht := h.tops t hm
    exact ⟨ht.row, ht.own, ht.log, ht.ded⟩
theorem put_any (V : List TopW) (t : TopW) : (DataW.map (V.map TopW.ent)).put (.string (namL t.name)) (.held t.v) = .map ((insW t (notN t.name V)).map TopW.ent) := by
  have hf : (V.map TopW.ent).filter (fun p => !p.1.sameKey (.string (namL t.name))) = (notN t.name V).map TopW.ent := by
    unfold notN
    rw [List.filter_map]
    congr 1
    refine List.filter_congr fun u _ => ?_
    show (!(u.ent.1.sameKey _)) = _
    rw [ent_same]
  show DataW.map (DataW.insert (_, _) (List.filter _ _)) = _
  rw [hf]
  exact congrArg DataW.map (ins_ent t (notN t.name V))
theorem StAt.addPart {o : Nat → Option Who} {s N : Nat} {S : StW} {w w2 w3 w4 w5 : World} (h : StAt w o s N S) (n : ByteArray) (hn : n.size ≤ 1000) (p : PartW) (v' : Value)
    (hlen : (curP S.V n).length < 1000) (h8 : (notN n S.V).length < 8)
    (hb2 : Below w.heap.size w w2) (hl : LogAt w2 (fun i => w.heap.size ≤ i) p.lb p.m.log) (hd : DedAt w2 (fun i => w.heap.size ≤ i) p.db N p.m.ded) (hlo : p.m.log.Ok N) (hdo : DedOk p.m.ded)
    (hb3 : Below w2.heap.size w2 w3)
    (ho4 : w4.ownsRow 0 78 2 v' ((curP S.V n).length + 1) ((curP S.V n).flatMap PartW.cells ++ p.cells)) (hg4 : w3.grownBy w4 (curV S.V n).ownBlock) (hx4 : v'.ownBlock = (curV S.V n).ownBlock ∨ v'.ownBlock = some w3.heap.size)
    (ho5 : w5.ownsMap Tryz.prog 9 rawElem S.tb 1001 ((DataW.map (S.V.map TopW.ent)).put (.string (namL n)) (.held v'))) (hg5 : w4.grownBy w5 (some S.tb)) :
    ∃ o', StAt w5 o' s N ⟨S.tb, S.g, S.gb, insW ⟨n, v', curP S.V n ++ [p]⟩ (notN n S.V), S.grp⟩ ∧ (∀ i, i < w.heap.size → o' i = o i) ∧ Turned (fun i => i = S.tb ∨ (curV S.V n).ownBlock = some i) w w5 := by
  have hc := h.cur n
  have htb : S.tb < w.heap.size := h.lim _ (by rw [h.own.2.1]; simp)
  have hcv : ∀ g, (curV S.V n).ownBlock = some g → g < w.heap.size := fun g e => (World.ownsRow.lt hc.row g e).2
  have z2 := hb2.size
  have z3 := hb3.size
  have z4 := hg4.size
  have z5 := hg5.size
  have hT3 : Turned (fun i => i = S.tb ∨ (curV S.V n).ownBlock = some i) w2 w3 := Turned.of_below hb3
  have hT4 : Turned (fun i => i = S.tb ∨ (curV S.V n).ownBlock = some i) w2 w4 := hT3.then_grown hg4 (fun k e => .inl (.inr e))
  have hT2 : Turned (fun i => i = S.tb ∨ (curV S.V n).ownBlock = some i) w2 w5 := hT4.then_grown hg5 (fun k e => .inl (.inl (Option.some.inj e).symm))
  have hT : Turned (fun i => i = S.tb ∨ (curV S.V n).ownBlock = some i) w w5 := (Turned.of_below hb2).trans hT2 (fun i _ hq => hq)
  have hT45 : Turned (fun i => i = S.tb) w4 w5 := Turned.of_grown hg5 (fun k e => (Option.some.inj e).symm)
  have hx : ∀ {i : Nat} {x : Who}, o i = some x → i < w.heap.size := fun e => h.lim _ (by rw [e]; simp)
  have hnq : ∀ {i : Nat} {x : Who}, o i = some x → x ≠ .top → x ≠ .topic n → ¬ (i = S.tb ∨ (curV S.V n).ownBlock = some i) := fun {i x} e h1 h2 hq => by
    rcases hq with rfl | hq
    · rw [h.own.2.1] at e
      exact h1 (Option.some.inj e).symm
    · rw [hc.own _ hq] at e
      exact h2 (Option.some.inj e).symm
  obtain ⟨o', ho'⟩ : ∃ o' : Nat → Option Who, ∀ i, o' i = if i < w.heap.size then o i else if i < w2.heap.size then some (.part n (curP S.V n).length) else if v'.ownBlock = some i then some (.topic n) else none := ⟨_, fun _ => rfl⟩
  have hold : ∀ i, i < w.heap.size → o' i = o i := fun i hi => by rw [ho', if_pos hi]
  have hsne : ¬ (s = S.tb ∨ (curV S.V n).ownBlock = some s) := fun e => by
    rcases e with e | e
    · have hb := h.bk
      obtain ⟨es, clock, hm, _⟩ := h.map
      rw [← e] at hm
      unfold Bk at hb
      rw [hb] at hm
      cases hm
    · have := hc.own _ e
      rw [h.own.1] at this
      cases this
  have hnew : TopAt w5 o' N ⟨n, v', curP S.V n ++ [p]⟩ := by
    refine ⟨?_, fun g e => ?_, ?_, hn, fun k q hk => ?_, fun k q hk => ?_⟩
    · show w5.ownsRow 0 _ 2 v' (curP S.V n ++ [p]).length ((curP S.V n ++ [p]).flatMap PartW.cells)
      have e1 : (curP S.V n ++ [p]).length = (curP S.V n).length + 1 := by simp
      have e2 : (curP S.V n ++ [p]).flatMap PartW.cells = (curP S.V n).flatMap PartW.cells ++ p.cells := by simp
      rw [e1, e2]
      refine own_turned ho4 hT45 (fun g e e3 => ?_)
      rcases hx4 with e4 | e4
      · rw [e4] at e
        have := hc.own g e
        rw [e3, h.own.2.1] at this
        cases this
      · rw [e4] at e
        have := Option.some.inj e
        omega
    · show o' g = some (.topic n)
      rcases hx4 with e4 | e4
      · replace e : v'.ownBlock = some g := e
        rw [e4] at e
        rw [hold g (hcv g e)]
        exact hc.own g e
      · replace e : v'.ownBlock = some g := e
        have eg := e
        rw [e4] at eg
        have := Option.some.inj eg
        rw [ho', if_neg (by omega), if_neg (by omega), if_pos e]
    · show (curP S.V n ++ [p]).length ≤ 1000
      simp
      omega
    · replace hk : (curP S.V n ++ [p])[k]? = some q := hk
      by_cases hkl : k < (curP S.V n).length
      · rw [List.getElem?_append_left hkl] at hk
        obtain ⟨a1, a2⟩ := hc.log k q hk
        exact ⟨(a1.turned hT (fun i _ e => hnq e (by simp) (by simp))).more (fun i _ e => (hold i (hx e)).trans e), a2⟩
      · rw [List.getElem?_append_right (by omega)] at hk
        have hk0 : k = (curP S.V n).length := by
          have := (List.getElem?_eq_some_iff.1 hk).1
          simp at this
          omega
        subst hk0
        obtain rfl : p = q := by simpa using hk
        have a1 := (hl.more (Q := fun i => w.heap.size ≤ i ∧ i < w2.heap.size) (fun i hi hq => ⟨hq, hi⟩)).turned hT2 (fun i _ hq e => by
          rcases e with e | e
          · omega
          · have := hcv i e
            omega)
        exact ⟨a1.more (fun i _ hq => by show o' i = _; rw [ho', if_neg (by omega), if_pos hq.2]), hlo⟩
    · replace hk : (curP S.V n ++ [p])[k]? = some q := hk
      by_cases hkl : k < (curP S.V n).length
      · rw [List.getElem?_append_left hkl] at hk
        obtain ⟨a1, a2⟩ := hc.ded k q hk
        exact ⟨(a1.turned hT (fun i _ e => hnq e (by simp) (by simp))).more (fun i _ e => (hold i (hx e)).trans e), a2⟩
      · rw [List.getElem?_append_right (by omega)] at hk
        have hk0 : k = (curP S.V n).length := by
          have := (List.getElem?_eq_some_iff.1 hk).1
          simp at this
          omega
        subst hk0
        obtain rfl : p = q := by simpa using hk
        have a1 := (hd.more (Q := fun i => w.heap.size ≤ i ∧ i < w2.heap.size) (fun i hi hq => ⟨hq, hi⟩)).turned hT2 (fun i _ hq e => by
          rcases e with e | e
          · omega
          · have := hcv i e
            omega)
        exact ⟨a1.more (fun i _ hq => by show o' i = _; rw [ho', if_neg (by omega), if_pos hq.2]), hdo⟩
  have hsub : ∀ t, t ∈ notN n S.V → t ∈ S.V ∧ t.name ≠ n := fun t ht => by
    have := List.mem_filter.1 ht
    exact ⟨this.1, by simpa using this.2⟩
  refine ⟨o', ⟨h.bk.turned hT hsne, ?_, h.grp.turned hT (hnq h.own.2.2.1 (by simp) (by simp)) (hnq h.own.2.2.2 (by simp) (by simp)), fun t ht => ?_, ?_, ⟨(hold _ (hx h.own.1)).trans h.own.1, (hold _ htb).trans h.own.2.1, (hold _ (hx h.own.2.2.1)).trans h.own.2.2.1, (hold _ (hx h.own.2.2.2)).trans h.own.2.2.2⟩, fun i hi => ?_, ?_, h.marks⟩, hold, hT⟩
  · show w5.ownsMap _ _ _ _ 1000 (.map ((insW ⟨n, v', curP S.V n ++ [p]⟩ (notN n S.V)).map TopW.ent))
    rw [← put_any S.V ⟨n, v', curP S.V n ++ [p]⟩]
    refine (own_tightS ho5).mono ?_
    rw [put_any S.V ⟨n, v', curP S.V n ++ [p]⟩, Maps.size_eq]
    have e1 : ((insW ⟨n, v', curP S.V n ++ [p]⟩ (notN n S.V)).map TopW.ent).length = (notN n S.V).length + 1 := by rw [List.length_map, len_ins]
    show ((insW ⟨n, v', curP S.V n ++ [p]⟩ (notN n S.V)).map TopW.ent).length ≤ 1000
    omega
  · rcases mem_ins.1 ht with rfl | ht
    · exact hnew
    · obtain ⟨hm, hne⟩ := hsub t ht
      refine ((h.tops t hm).more hold).turned hT (fun i hiw e => ?_)
      rw [hold i hiw] at e
      rcases e with ⟨k, e⟩ | e
      · exact hnq e (by simp) (by simp)
      · exact hnq e (by simp) (fun e2 => hne (by injection e2))
  · refine sorted_ins (List.Pairwise.sublist List.filter_sublist h.sorted) (fun t ht e => ?_)
    exact (hsub t ht).2 e
  · rw [ho'] at hi
    split at hi
    · have := h.lim i hi
      omega
    · split at hi
      · omega
      · split at hi
        · rename_i e
          have := (World.ownsRow.lt ho4 i e).2
          omega
        · exact absurd rfl hi
  · show (insW _ (notN n S.V)).length ≤ 8
    rw [len_ins]
    omega
end Go.Proofs.YtjodiieeocaipaaGreatDoor

/-
  state.Twin: what its walk leans on.
-/
namespace Go.Proofs.YtjodiieeocaipaaGreatDoor
open Go.RowKit Go.Maps

/-- a store into a map of the call's own, at a step of a region that draws its order -/
theorem step_update_own {H : Type} {P : Program} {ops : Array Oper} {o : Oper} {a : Act} {w : World} {K' : Act → World → Prop} {Q : Exit → Act → World → Prop} {E : Prop}
    (hg : o.guard = none) (m x v : Operand) (t : TypeId) (hop : o.op = Op.mapUpdate t m x v)
    (k e : TypeId) (K : Keyed P k) (ht : P.underlying t = some (.map k e)) (R : Value → Option (DataW H × List MemPlace)) (b n : Nat) (D : DataW H)
    (hm : a.eval m = .map (some b)) (hown : w.ownsMap P k R b n D) (hn : n < maxLen) (key val : Value) (kl : Lit) (hx : a.eval x = key) (hv : a.eval v = val) (hkey : keyOf P k key = some kl)
    (d : DataW H) (ps : List MemPlace) (hval : R val = some (d, ps))
    (hK : ∀ w', Hid (w'.ownsMap P k R b (n + 1) (D.put kl d)) → Hid (w.grownBy w' (some b)) → K' (a.put o.dst undef) w') :
    if Region.wanted o (yielded ops a.tmps) = true then Oper.wp P o a w K' Q else E := by
  have hw : Region.wanted o (yielded ops a.tmps) = true := by simp [Region.wanted, hg]
  rw [if_pos hw]
  obtain ⟨w', hrun, r1, r2⟩ := hown.update K ht hn hkey hval
  unfold Oper.wp
  simp [execOp, hop, hm, hx, hv, hrun, Result.andThen]
  exact hK w' r1 r2
/-- a State without topics that is new -/
theorem st_fresh {w W : World} {t tb g gb : Nat} {D : DataW Unit} (hk : Bk W t 66 #[.map (some tb), .pointer (some ⟨g, 0, none⟩)]) (hm : W.ownsMap Tryz.prog 9 rawElem tb 0 (.map [])) (hg : Grp W g gb D) (hs : Maps.size D ≤ 32)
    (h1 : w.heap.size ≤ t) (h2 : w.heap.size ≤ tb) (h3 : w.heap.size ≤ g) (h4 : w.heap.size ≤ gb) (hne : g ≠ t ∧ g ≠ tb ∧ gb ≠ t ∧ gb ≠ tb) (N : Nat) (r : Nat) (hr : t < r ∧ tb < r ∧ g < r ∧ gb < r) :
    ∃ o, StAt W o t N ⟨tb, g, gb, [], D⟩ ∧ ∀ i, o i ≠ none → w.heap.size ≤ i ∧ i < r := by
  refine ⟨fun i => if i = t ∨ i = tb then some .top else if i = g ∨ i = gb then some .grp else none, ⟨hk, hm.mono (Nat.zero_le _), hg, fun t ht => (by cases ht), List.Pairwise.nil, ⟨by simp, by simp, ?_, ?_⟩, fun i hi => ?_, Nat.zero_le _, hs⟩, fun i hi => ?_⟩
  · rw [if_neg (by show ¬ (g = t ∨ g = tb); omega), if_pos (.inl rfl)]
  · rw [if_neg (by show ¬ (gb = t ∨ gb = tb); omega), if_pos (.inr rfl)]
  · have a1 := hk.lt
    have a2 := hm.lt
    have a3 := hg.bk.lt
    have a4 := hg.own.lt
    replace hi : (if i = t ∨ i = tb then some Who.top else if i = g ∨ i = gb then some Who.grp else none) ≠ none := hi
    split at hi
    · rename_i h
      rcases h with rfl | rfl
      · exact a1
      · exact a2
    · split at hi
      · rename_i h
        rcases h with rfl | rfl
        · exact a3
        · exact a4
      · exact absurd rfl hi
  · replace hi : (if i = t ∨ i = tb then some Who.top else if i = g ∨ i = gb then some Who.grp else none) ≠ none := hi
    split at hi
    · omega
    · split at hi
      · omega
      · exact absurd rfl hi
theorem not_ins {V : List TopW} {n : ByteArray} (h : ∀ t ∈ V, t.name ≠ n) (v : Value) (ps : List PartW) : notN n (insW ⟨n, v, ps⟩ V) = V := by
  have hself : notN n V = V := List.filter_eq_self.2 fun t ht => by simp [h t ht]
  unfold notN at hself ⊢
  induction V with
  | nil => simp [insW]
  | cons a r ih =>
    have ha : a.name ≠ n := h a List.mem_cons_self
    have hr : ∀ t ∈ r, t.name ≠ n := fun t ht => h t (List.mem_cons_of_mem _ ht)
    unfold insW
    split
    · rw [List.filter_cons_of_neg (by simp)]
      exact hself
    · rw [List.filter_cons_of_pos (by simp [ha])]
      exact congrArg _ (ih hr (List.filter_eq_self.2 fun t ht => by simp [hr t ht]))
theorem not_self {V : List TopW} {n : ByteArray} (h : ∀ t ∈ V, t.name ≠ n) : notN n V = V := List.filter_eq_self.2 fun t ht => by simp [h t ht]
theorem find_not {V : List TopW} {n : ByteArray} (h : ∀ t ∈ V, t.name ≠ n) : findW V n = none := List.find?_eq_none.2 fun t ht => by simp [h t ht]
theorem find_insW {V : List TopW} {n : ByteArray} (h : ∀ t ∈ V, t.name ≠ n) (v : Value) (ps : List PartW) : findW (insW ⟨n, v, ps⟩ V) n = some ⟨n, v, ps⟩ := by
  unfold findW
  induction V with
  | nil => simp [insW]
  | cons a r ih =>
    unfold insW
    split
    · simp
    · rw [List.find?_cons, decide_eq_false (h a List.mem_cons_self)]
      exact ih fun t ht => h t (List.mem_cons_of_mem _ ht)
/-- the topics of a twin, while one comes in -/
def CurT (V V' : List TopW) (n : ByteArray) (ms : List PartM) : Prop := (V = V' ∧ ms = []) ∨ ∃ v ps, V = insW ⟨n, v, ps⟩ V' ∧ ps.map PartW.m = ms
theorem CurT.parts {V V' : List TopW} {n : ByteArray} {ms : List PartM} (h : CurT V V' n ms) (hn : ∀ t ∈ V', t.name ≠ n) : notN n V = V' ∧ (curP V n).map PartW.m = ms := by
  rcases h with ⟨rfl, rfl⟩ | ⟨v, ps, rfl, rfl⟩
  · refine ⟨not_self hn, ?_⟩
    unfold curP
    rw [find_not hn]
    rfl
  · refine ⟨not_ins hn v ps, ?_⟩
    unfold curP
    rw [find_insW hn]
/-- two sorted lists of topics with the same members -/
theorem sorted_ext {T T' : TopM} (h : T.Pairwise (fun a b => bytesBefore (namL a.1) (namL b.1) = true)) (h' : T'.Pairwise (fun a b => bytesBefore (namL a.1) (namL b.1) = true)) (hm : ∀ x, x ∈ T ↔ x ∈ T') : T = T' := by
  have nd : ∀ {L : TopM}, L.Pairwise (fun a b => bytesBefore (namL a.1) (namL b.1) = true) → L.Nodup := fun {L} hL => hL.imp fun {a b} hab e => by
    subst e
    rw [WideAt.bytes_irrefl] at hab
    cases hab
  have hp : T.Perm T' := (List.perm_ext_iff_of_nodup (nd h) (nd h')).2 hm
  refine List.Perm.eq_of_pairwise (le := fun a b => bytesBefore (namL a.1) (namL b.1) = true) (fun a b _ _ h1 h2 => ?_) h h' hp
  have := Go.WideShapes.bytes_trans _ _ _ h1 h2
  rw [WideAt.bytes_irrefl] at this
  cases this
end Go.Proofs.YtjodiieeocaipaaGreatDoor

/-
  state.Twin.
-/
namespace Go.Proofs.YtjodiieeocaipaaGreatDoor
open Go.RowKit Go.Maps

def ldPt (v : Value) : Sem Value := Instr.loadAt 78 v
theorem ldPt_eq (v : Value) : Instr.loadAt 78 v = ldPt v := rfl
def stPt (v u : Value) : Sem Unit := Instr.storeAt 78 v u
theorem stPt_eq (v u : Value) : Instr.storeAt 78 v u = stPt v u := rfl
theorem size_pt : (Tryz.prog.info? 78).map (·.size) = some 2 := by kernel_rfl
theorem ldPt_at {w : World} {g o : Nat} {a b : Value} (h : ∀ j u, ([a, b] : List Value)[j]? = some u → w.cell? ⟨g, o + j, none⟩ = some u) : (ldPt (.pointer (some ⟨g, o, none⟩))).run Tryz.prog w = .ok (.agg #[a, b]) w := by
  exact run_loadAt_mid w g o 78 [a, b] _ h Tryz.underlying78 rfl size_pt
theorem stPt_row {w : World} {G : Nat} {old : Array Value} (h : Bk w G 78 old) (ho : old.size = 2) (p : PartW) :
    (stPt (.pointer (some ⟨G, 0, none⟩)) (.agg #[.pointer (some ⟨p.lb, 0, none⟩), .pointer (some ⟨p.db, 0, none⟩)])).run Tryz.prog w = .ok () (w.setRow G #[.pointer (some ⟨p.lb, 0, none⟩), .pointer (some ⟨p.db, 0, none⟩)]) := by
  unfold stPt
  simp only [Instr.storeAt, Instr.sureAddr, Sem.run_bind, Sem.run_pure, Result.andThen_ok, run_storeVar_row w G _ _ old #[.pointer (some ⟨p.lb, 0, none⟩), .pointer (some ⟨p.db, 0, none⟩)] h size_pt (by rw [ho]; rfl) (all_oneCell_toArray (cs := p.cells) (one_p p))]
attribute [local go_sem ↓] ldPt_eq stPt_eq

theorem find_at' {V : List TopW} (h : Sorted V) {k : Nat} {t : TopW} (hk : V[k]? = some t) : findW V t.name = some t := by
  unfold findW
  induction V generalizing k with
  | nil => cases hk
  | cons a r ih =>
    rw [List.find?_cons]
    cases k with
    | zero =>
      have e : a = t := by simpa using hk
      subst e
      rw [decide_eq_true rfl]
    | succ k =>
      have hk' : r[k]? = some t := by simpa using hk
      have hm := List.mem_of_getElem? hk'
      have hne : a.name ≠ t.name := fun e => by
        have := (List.pairwise_cons.1 h).1 t hm
        rw [e, WideAt.bytes_irrefl] at this
        cases this
      rw [decide_eq_false hne]
      exact ih (List.pairwise_cons.1 h).2 hk'
/-- the twin under way: what has come of the topics -/
structure TwI (w wr : World) (S : StW) (N t tb g gb r : Nat) (left : Lit → Bool) (cnt : Nat) (V' : List TopW) : Prop where
  rg : wr.ranges Tryz.prog 9 rawElem S.tb r 1000 (.map (S.V.map TopW.ent)) left cnt
  st : ∃ o', StAt wr o' t N ⟨tb, g, gb, V', S.grp⟩ ∧ ∀ i, o' i ≠ none → w.heap.size ≤ i ∧ i ≠ r
  below : Below w.heap.size w wr
  far : w.heap.size ≤ r
/-- .. while the topic T comes in -/
structure TwJ (w wi : World) (S : StW) (N t tb g gb r : Nat) (left : Lit → Bool) (cnt : Nat) (V' : List TopW) (n : ByteArray) (T : TopW) (j : Nat) : Prop where
  rg : wi.ranges Tryz.prog 9 rawElem S.tb r 1000 (.map (S.V.map TopW.ent)) left cnt
  st : ∃ o' Vc, StAt wi o' t N ⟨tb, g, gb, Vc, S.grp⟩ ∧ (∀ i, o' i ≠ none → w.heap.size ≤ i ∧ i ≠ r) ∧ CurT Vc V' n ((T.ps.take j).map PartW.m)
  below : Below w.heap.size w wi
theorem ranges_turned {H : Type} {Pr : Program} {k : TypeId} {R : Value → Option (DataW H × List MemPlace)} {w w' : World} {Q : Nat → Prop} {b r n : Nat} {D : DataW H} {left : Lit → Bool} {cnt : Nat} (h : w.ranges Pr k R b r n D left cnt) (ht : Turned Q w w') (hb : ¬ Q b) (hr : ¬ Q r) : w'.ranges Pr k R b r n D left cnt := by
  have h1 := h.owns.lt
  have h2 := h.lt
  obtain ⟨es, clock, since, seen, c0, a1, F, hs, hD, a2, rest⟩ := h
  exact ⟨es, clock, since, seen, c0, (ht.block b h1 hb).trans a1, F, hs, hD, (ht.block r h2 hr).trans a2, rest⟩
/-- a partition has come -/
theorem TwJ.step {w W w2 w3 w4 w5 : World} {o : Nat → Option Who} {s t N tb g gb r : Nat} {S : StW} {left : Lit → Bool} {cnt : Nat} {V' : List TopW} {n : ByteArray} {T : TopW} {j : Nat}
    (hS : StAt w o s N S) (hrg : W.ranges Tryz.prog 9 rawElem S.tb r 1000 (.map (S.V.map TopW.ent)) left cnt) {o' : Nat → Option Who} {Vc : List TopW} (h : StAt W o' t N ⟨tb, g, gb, Vc, S.grp⟩) (ho : ∀ i, o' i ≠ none → w.heap.size ≤ i ∧ i ≠ r) (hcur : CurT Vc V' n ((T.ps.take j).map PartW.m)) (hbW : Below w.heap.size w W)
    (hno : ∀ u ∈ V', u.name ≠ n) (h8 : V'.length < 8) (hn : n.size ≤ 1000) (hfar : w.heap.size ≤ r) {q : PartW} (hq : T.ps[j]? = some q) (hj : j < 1000) {lb db : Nat} {v' : Value}
    (hb2 : Below W.heap.size W w2) (hl : LogAt w2 (fun i => W.heap.size ≤ i) lb q.m.log) (hd : DedAt w2 (fun i => W.heap.size ≤ i) db N q.m.ded) (hlo : q.m.log.Ok N) (hdo : DedOk q.m.ded)
    (hb3 : Below w2.heap.size w2 w3)
    (ho4 : w4.ownsRow 0 78 2 v' ((curP Vc n).length + 1) ((curP Vc n).flatMap PartW.cells ++ [.pointer (some ⟨lb, 0, none⟩), .pointer (some ⟨db, 0, none⟩)])) (hg4 : w3.grownBy w4 (curV Vc n).ownBlock) (hx4 : v'.ownBlock = (curV Vc n).ownBlock ∨ v'.ownBlock = some w3.heap.size)
    (ho5 : w5.ownsMap Tryz.prog 9 rawElem tb 1001 ((DataW.map (Vc.map TopW.ent)).put (.string (namL n)) (.held v'))) (hg5 : w4.grownBy w5 (some tb)) : TwJ w w5 S N t tb g gb r left cnt V' n T (j + 1) := by
  obtain ⟨hnot, hps⟩ := hcur.parts hno
  have hlen : (curP Vc n).length = j := by
    have h1 := congrArg List.length hps
    rw [List.length_map, List.length_map, List.length_take] at h1
    have := (List.getElem?_eq_some_iff.1 hq).1
    omega
  have hc := h.cur n
  obtain ⟨o2, hst, hold, hT⟩ := h.addPart n hn ⟨lb, db, q.m⟩ v' (by show (curP Vc n).length < 1000; omega) (by show (notN n Vc).length < 8; rw [hnot]; exact h8) hb2 hl hd hlo hdo hb3 ho4 hg4 hx4 ho5 hg5
  have hQ : ∀ i, (i = tb ∨ (curV Vc n).ownBlock = some i) → o' i ≠ none := fun i hi => by
    rcases hi with rfl | hi
    · have := h.own.2.1
      intro e
      rw [show o' i = some Who.top from this] at e
      cases e
    · intro e
      rw [hc.own i hi] at e
      cases e
  have hSt : S.tb < w.heap.size := hS.lim _ (by rw [hS.own.2.1]; simp)
  have hrl := hrg.lt
  refine ⟨ranges_turned hrg hT (fun hq2 => ?_) (fun hq2 => (ho r (hQ r hq2)).2 rfl), ⟨o2, _, hst, fun i hi => ?_, .inr ⟨v', curP Vc n ++ [⟨lb, db, q.m⟩], ?_, ?_⟩⟩, hT.below hbW hbW.size (fun i hi => (ho i (hQ i hi)).1)⟩
  · have := (ho S.tb (hQ S.tb hq2)).1
    omega
  · by_cases hiw : i < W.heap.size
    · rw [hold i hiw] at hi
      exact ho i hi
    · have := hbW.size
      exact ⟨by omega, by omega⟩
  · show insW _ (notN n Vc) = _
    rw [hnot]
  · rw [List.map_append, hps, List.take_add_one, hq, List.map_append]
    rfl
set_option maxRecDepth 100000 in
set_option maxHeartbeats 4000000 in
theorem stTwin_any {o : Nat → Option Who} {s N : Nat} {S : StW} {w : World} (h : StAt w o s N S) (hne : ∀ t ∈ S.V, t.ps ≠ []) (hN : N ≤ 1000000) :
    Calls Tryz.prog 22 #[.pointer (some ⟨s, 0, none⟩)] w fun e w' => ∃ (t : Nat) (o' : Nat → Option Who) (S' : StW), e = .returned (.pointer (some ⟨t, 0, none⟩)) ∧ StAt w' o' t N S' ∧ S'.m = S.m ∧ (∀ i, o' i ≠ none → w.heap.size ≤ i) ∧ Below w.heap.size w w' := by
  have hmm := @run_makeMap Tryz.prog
  obtain ⟨ii, hi0, hz0, hs0, hy0⟩ := info_parts info_part
  have HI := Lib.hid hi0
  have HZ := Lib.hid hz0
  have HSz := Lib.hid hs0
  have HY := Lib.hid hy0
  have HS := Lib.hid h
  have HNe := Lib.hid hne
  have hb0 := below_new w (.map #[] 0)
  have h1 := h.ext hb0
  have hsz : (w.alloc (.map #[] 0)).heap.size = w.heap.size + 1 := by simp
  have HTw := Lib.hid (twin_any S.g S.gb S.grp (w.alloc (.map #[] 0)) h1.grp)
  have HO := Lib.hid (World.ownsMap_made (H := Value) w Tryz.prog 9 rawElem)
  have HB0 := Lib.hid hb0
  have c1 : (w.alloc (.map #[] 0)).cell? ⟨s, 1, none⟩ = some (.pointer (some ⟨S.g, 0, none⟩)) := h1.bk.cell 1
  rw [hsz] at HTw
  clear h hne hb0 h1 hi0 hz0 hs0 hy0
  go_enter Tryz.func22, Tryz.ntmps22
  go_upto_region 2 with (first | (go_at_call 37; go_loud (with_reducible refine HTw.out.mono ?_); go_loud (rintro er w1 ⟨rfl, hg1, hb1⟩); have HG1 := Lib.hid hg1; have HB1 := Lib.hid hb1; clear hg1 hb1) | fail)
  clear HTw c1 hmm
  have hbb : Below w.heap.size w w1 := HB0.out.trans (below_le (by simp) HB1.out)
  have hkx := Bk.made w1 66 #[.map (some w.heap.size), .pointer (some ⟨w.heap.size + 1 + 1, 0, none⟩)]
  have hbx := below_new w1 (.cells #[.map (some w.heap.size), .pointer (some ⟨w.heap.size + 1 + 1, 0, none⟩)] 66)
  have hmx : (w1.alloc (.cells #[.map (some w.heap.size), .pointer (some ⟨w.heap.size + 1 + 1, 0, none⟩)] 66)).ownsMap Tryz.prog 9 rawElem w.heap.size 0 (.map []) := (World.ownsMap.kept HO.out (grown_of_below (show Below (w.alloc (.map #[] 0)).heap.size (w.alloc (.map #[] 0)) w1 by rw [hsz]; exact HB1.out)) (by simp)).alloc _
  have hgx := HG1.out.ext hbx
  have hz1 : w.heap.size + 1 + 1 < w1.heap.size := HG1.out.bk.lt
  obtain ⟨t, ht⟩ : ∃ t, t = w1.heap.size := ⟨_, rfl⟩
  have hzx : (w1.alloc (.cells #[.map (some w.heap.size), .pointer (some ⟨w.heap.size + 1 + 1, 0, none⟩)] 66)).heap.size = t + 1 := by rw [ht]; simp
  rw [← ht] at hkx ⊢
  have HBX := Lib.hid (hbb.trans (below_le hbb.size hbx))
  clear hbb hbx HG1 HB1 HO HB0
  generalize w1.alloc (.cells #[.map (some w.heap.size), .pointer (some ⟨w.heap.size + 1 + 1, 0, none⟩)] 66) = X at hkx hmx hgx hzx HBX ⊢
  obtain ⟨o0, hst0, ho0⟩ := st_fresh (w := w) hkx hmx hgx HS.out.marks (by omega) (by omega) (by omega) (by omega) ⟨by omega, by omega, by omega, by omega⟩ N (t + 1) ⟨by omega, by omega, by omega, by omega⟩
  obtain ⟨tb, htb⟩ : ∃ x, x = w.heap.size := ⟨_, rfl⟩
  obtain ⟨g, hg⟩ : ∃ x, x = w.heap.size + 1 + 1 := ⟨_, rfl⟩
  obtain ⟨gb, hgb⟩ : ∃ x, x = w.heap.size + 1 := ⟨_, rfl⟩
  rw [← hg, ← hgb, ← htb] at hst0
  have HSt0 := Lib.hid hst0
  have HO0 := Lib.hid ho0
  have HTB := Lib.hid htb
  have HZX := Lib.hid hzx
  have hSx := HS.out.ext HBX.out
  have c0 : X.cell? ⟨s, 0, none⟩ = some (.map (some S.tb)) := hSx.bk.cell 0
  have HM0 := Lib.hid hSx.map
  clear hst0 ho0 hkx hmx hgx hz1 hzx ht htb hg hgb hsz hSx
  go_wp2_with (first | (at_range; go_loud (refine wpList_range_own _ rfl _ 62 rfl 9 86 key_strd Tryz.underlying62 rawElem S.tb 1000 (.map (S.V.map TopW.ent)) rfl HM0.out ?_); go_loud (intro w0 hrg0 hg0 hs0); have HRg := Lib.hid hrg0; have HGr := Lib.hid hg0; have HSs := Lib.hid hs0; clear hrg0 hg0 hs0) | fail)
  go_frame
  have hfar : ∀ (i : Nat), o0 i ≠ none → w.heap.size ≤ i ∧ i ≠ X.heap.size := fun i hi => by
    have := HO0.out i hi
    have := HZX.out
    exact ⟨by omega, by omega⟩
  have hb0 : Below X.heap.size X w0 := below_grown (Below.refl _ _) (Nat.le_refl _) (HGr.out.but (some X.heap.size)) (Nat.le_refl _)
  have HTI : Hid (TwI w w0 S N t tb g gb X.heap.size (Maps.has (.map (S.V.map TopW.ent))) (Maps.size (.map (S.V.map TopW.ent))) []) := ⟨HRg.out, ⟨o0, HSt0.out.ext hb0, hfar⟩, HBX.out.trans (below_le HBX.out.size hb0), HBX.out.size⟩
  obtain ⟨r, hr⟩ : ∃ r, r = X.heap.size := ⟨_, rfl⟩
  rw [← hr] at HTI ⊢
  clear HRg HGr HSs hb0 hfar hr c0 HM0 HSt0 HO0 HZX HTB HBX
  go_loopw [4] (fun _ wr => ∃ (left : Lit → Bool) (cnt : Nat) (V' : List TopW), Hid (TwI w wr S N t tb g gb r left cnt V') ∧ Hid (∀ x, x ∈ V'.map TopW.m ↔ x ∈ S.V.map TopW.m ∧ left (.string (namL x.1)) = false) ∧ V'.length + cnt ≤ S.V.length) (fun _ wr => wr.rangeLeft S.tb r)
  case atStart =>
    refine ⟨_, _, [], HTI, fun x => ⟨fun hx => absurd hx List.not_mem_nil, fun hx => ?_⟩, ?_⟩
    · obtain ⟨u, hu, rfl⟩ := List.mem_map.1 hx.1
      have h2 := hx.2
      rw [has_ent] at h2
      have := (List.any_eq_false.1 h2) u hu
      exact absurd (show u.name = u.m.1 from rfl) (by simpa using this)
    · rw [Maps.size_eq]
      simp
  case round =>
    obtain ⟨left, cnt, V', hTI, hmem, hcnt⟩ := hrel
    clear HTI
    go_wp2_with (first | (at_next; go_loud (refine wpList_next_ranges _ rfl _ rfl 9 key_strd rawElem Value.string id (fun key kl hkey => by obtain ⟨x, rfl, _⟩ := Go.Maps.keyOf_str Tryz.underlying9 hkey; exact ⟨⟨x.toArray⟩, rfl⟩) (fun v y _ => ⟨v, rfl⟩) S.tb r 1000 _ left cnt rfl hTI.out.rg ?_ ?_)) | fail)
    · intro hc0 hl0
      go_wp2_with fail
      go_ret
      obtain ⟨o', hst, ho'⟩ := hTI.out.st
      refine ⟨t, o', _, rfl, hst, ?_, fun i hi => (ho' i hi).1, hTI.out.below⟩
      have e : V'.map TopW.m = S.V.map TopW.m := by
        refine sorted_ext ?_ ?_ (fun x => ⟨fun hx => ((hmem.out x).1 hx).1, fun hx => (hmem.out x).2 ⟨hx, hl0 _⟩⟩)
        · rw [List.pairwise_map]
          exact hst.sorted
        · rw [List.pairwise_map]
          exact HS.out.sorted
      show (⟨V'.map TopW.m, S.grp⟩ : StM) = ⟨S.V.map TopW.m, S.grp⟩
      rw [e]
    · intro x c kl y yp w1 cnt1 hkey hlk hv hat hrg1 hlt hg1 hs1 hen
      obtain rfl : y = .held c := by injection hv with hv; injection hv with hv _; exact hv.symm
      obtain ⟨bs, ebs, rfl, _⟩ := Go.Maps.keyOf_str Tryz.underlying9 hkey
      obtain rfl : x = ⟨bs.toArray⟩ := by injection ebs
      obtain ⟨n, hn⟩ : ∃ n : ByteArray, n = ⟨bs.toArray⟩ := ⟨_, rfl⟩
      have hbs : bs = namL n := by rw [hn]; simp [namL]
      rw [hbs] at hat hlk hrg1
      rw [← hn] at hen ⊢
      clear hbs hn ebs hkey
      obtain ⟨T, hT⟩ : ∃ T, findW S.V n = some T := by
        have h1 := hat (.map [])
        have h2 := hat (.lit (.bool true))
        rw [at_ent] at h1 h2
        cases hf : findW S.V n with
        | some T => exact ⟨T, rfl⟩
        | none =>
          unfold findW at hf
          rw [hf] at h1 h2
          rw [← h1] at h2
          cases h2
      obtain ⟨hTm, hTn⟩ := findW_mem hT
      have hTv : T.v = c := by
        have h1 := hat (.map [])
        rw [at_ent] at h1
        unfold findW at hT
        rw [hT] at h1
        injection h1
      have hno : ∀ u ∈ V', u.name ≠ n := fun u hu e => by
        have := ((hmem.out u.m).1 (List.mem_map.2 ⟨u, hu, rfl⟩)).2
        rw [show u.m.1 = n from e, hlk] at this
        cases this
      have hb1 : Below w.heap.size w w1 := below_grown hTI.out.below hTI.out.below.size hg1 hTI.out.far
      have hTJ : TwJ w w1 S N t tb g gb r (fun z => left z && !z.sameKey (.string (namL n))) cnt1 V' n T 0 := by
        obtain ⟨o', hst, ho'⟩ := hTI.out.st
        have hst1 := hst.turned (Turned.of_grown (P := fun i => i = r) hg1 (fun k e => (Option.some.inj e).symm)) (fun i _ ho hq => (ho' i ho).2 hq)
        exact ⟨hrg1, ⟨o', V', hst1, ho', .inl ⟨rfl, rfl⟩⟩, hb1⟩
      have hSw := HS.out.ext hb1
      obtain ⟨At, ct, hv2, hct, hct2, _⟩ := parts_cell (hSw.tops T hTm).row
      rw [hTv] at hv2
      subst hv2
      have HTJ := Lib.hid hTJ
      have HNo := Lib.hid hno
      have HTm := Lib.hid hTm
      have HTn := Lib.hid hTn
      have HTv := Lib.hid hTv
      have HFar := Lib.hid hTI.out.far
      have HLk := Lib.hid hlk
      have HT := Lib.hid hT
      have HSt := Lib.hid (show V'.length + 1 ≤ 8 ∧ V'.length + 1 + cnt1 ≤ S.V.length by have := HS.out.few; omega)
      have HLe : Hid (wr.rangeLeft S.tb r = cnt ∧ cnt1 < cnt) := ⟨hTI.out.rg.left_eq, hlt⟩
      clear hTJ hno hTm hTn hTv hlk hT hat hv hrg1 hlt hg1 hs1 hSw hb1 hTI hcnt hct hct2
      go_wp2_with fail
      go_loopw [28] (fun i wi => ∃ j : Nat, j ≤ T.ps.length ∧ i = .int .i64 j ∧ Hid (TwJ w wi S N t tb g gb r (fun z => left z && !z.sameKey (.string (namL n))) cnt1 V' n T j)) (fun i _ => T.ps.length - (intOf i).toNat)
      case atStart => exact ⟨0, Nat.zero_le _, rfl, HTJ⟩
      case round =>
        obtain ⟨j, hj, rfl, hJ⟩ := hrel
        clear HTJ
        by_cases hjl : j < T.ps.length
        · have hi : (j : Int) < T.ps.length := by omega
          obtain ⟨p, hp⟩ : ∃ p, T.ps[j]? = some p := ⟨T.ps[j], List.getElem?_eq_getElem hjl⟩
          have hSr := HS.out.ext hJ.out.below
          have hTop := hSr.tops T HTm.out
          obtain ⟨A2, c2, hv3, _, _, hcell⟩ := parts_cell hTop.row
          rw [HTv.out] at hv3
          obtain ⟨rfl, rfl⟩ : A2 = At ∧ c2 = ct := by injection hv3 with e1 _ e3; exact ⟨e1.symm, e3.symm⟩
          obtain ⟨gr, rfl, _, d0, d1⟩ := hcell j p hp
          have hld := ldPt_at (w := wr) (g := gr) (o := j * 2) (a := .pointer (some ⟨p.lb, 0, none⟩)) (b := .pointer (some ⟨p.db, 0, none⟩)) (fun i u hu => by
            match i with
            | 0 => injection hu with hu; rw [← hu]; exact d0
            | 1 => injection hu with hu; rw [← hu]; exact d1)
          have hkx := Bk.made wr 78 #[.pointer none, .pointer none]
          have hbx0 := below_new wr (.cells #[.pointer none, .pointer none] 78)
          have hst := stPt_row hkx rfl p
          have hbx := below_row hbx0 hbx0.size (Nat.le_refl _) #[.pointer (some ⟨p.lb, 0, none⟩), .pointer (some ⟨p.db, 0, none⟩)]
          have HKp := Lib.hid (hkx.row #[.pointer (some ⟨p.lb, 0, none⟩), .pointer (some ⟨p.db, 0, none⟩)])
          have HBx := Lib.hid hbx
          obtain ⟨o', Vc, hst', ho', hcur⟩ := hJ.out.st
          have hlimt : t < wr.heap.size := hst'.bk.lt
          have hlimtb : tb < wr.heap.size := hst'.map.lt
          have hcvl : ∀ x, (curV Vc n).ownBlock = some x → x < wr.heap.size ∧ x ≠ t := fun x e => ⟨(World.ownsRow.lt (hst'.cur n).row x e).2, fun e2 => by
            have h1 := (hst'.cur n).own x e
            rw [e2, hst'.own.1] at h1
            cases h1⟩
          have htt : tb ≠ t := fun e => by
            have hb := hst'.bk
            obtain ⟨es, clock, hm, _⟩ := hst'.map
            replace hm : wr.heap[tb]? = _ := hm
            rw [e] at hm
            unfold Bk at hb
            rw [hb] at hm
            cases hm
          have HLm := Lib.hid (And.intro hlimt (And.intro hlimtb (And.intro hcvl htt)))
          have HLog := Lib.hid (hTop.log j p hp)
          have HDed := Lib.hid (hTop.ded j p hp)
          have HnS : Hid (n.size ≤ 1000) := by have := hTop.short; rw [HTn.out] at this; exact this
          have hfew := hTop.few
          have Hst' := Lib.hid hst'
          have Ho' := Lib.hid ho'
          have Hcur := Lib.hid hcur
          have Hp := Lib.hid hp
          clear hkx hbx0 hbx hcell d0 d1 hv3 hTop hSr hst' ho' hcur hp hlimt hlimtb hcvl htt
          go_upto_region 8 with fail
          obtain ⟨pc, hpc⟩ : ∃ x, x = wr.heap.size := ⟨_, rfl⟩
          rw [← hpc] at HKp HBx HLm ⊢
          have HStW := Lib.hid (Hst'.out.ext (by rw [← hpc]; exact HBx.out))
          have HRgW : Hid (((wr.alloc (.cells #[.pointer none, .pointer none] 78)).setRow pc #[.pointer (some ⟨p.lb, 0, none⟩), .pointer (some ⟨p.db, 0, none⟩)]).ranges Tryz.prog 9 rawElem S.tb r 1000 (.map (S.V.map TopW.ent)) (fun z => left z && !z.sameKey (.string (namL n))) cnt1) := ranges_turned (Q := fun _ => False) hJ.out.rg (Turned.of_below (by rw [← hpc]; exact HBx.out)) id id
          have HLgW := Lib.hid (LogAt.ext HLog.out.1 (by rw [← hpc]; exact HBx.out))
          have HDdW := Lib.hid (DedAt.ext HDed.out.1 (by rw [← hpc]; exact HBx.out))
          have HBW := Lib.hid (hJ.out.below.trans (below_le (by rw [hpc]; exact hJ.out.below.size) HBx.out))
          generalize (wr.alloc (.cells #[.pointer none, .pointer none] 78)).setRow pc #[.pointer (some ⟨p.lb, 0, none⟩), .pointer (some ⟨p.db, 0, none⟩)] = W at HKp HStW HRgW HLgW HDdW HBW ⊢
          clear hst hld HBx hJ Hst' hpc
          have hcN := HStW.out.cur n
          have HRow := Lib.hid hcN.row
          have HMp := Lib.hid HStW.out.map
          have HNtb : Hid (¬ (curV Vc n).ownBlock = some tb) := fun e => by
            have h1 := hcN.own tb e
            rw [show o' tb = some Who.top from HStW.out.own.2.1] at h1
            cases h1
          have hlenc : (curP Vc n).length = j := by
            have h1 := congrArg List.length (Hcur.out.parts HNo.out).2
            rw [List.length_map, List.length_map, List.length_take] at h1
            omega
          have hbd : (curP Vc n).length ≤ 1000 := by omega
          clear hlenc
          have hlk : ∀ v, Below W.heap.size W v → (Instr.lookup 62 (.map (some tb)) (.string n) false).run Tryz.prog v = .ok (curV Vc n) v := fun v hv => topics_look ((HStW.out.ext hv).map) n (by have := HnS.out; unfold maxLen; omega)
          have HLT : Hid (∀ v, Below W.heap.size W v → Calls Tryz.prog 38 #[.pointer (some ⟨p.lb, 0, none⟩)] v fun e w' => ∃ b, e = .returned (.pointer (some ⟨b, 0, none⟩)) ∧ LogAt w' (fun i => W.heap.size ≤ i) b p.m.log ∧ Below W.heap.size W w' ∧ Below v.heap.size v w') := fun v hv =>
            (logTwin_any (HLgW.out.ext hv) (Nat.le_trans HLog.out.2.few hN)).mono fun e w' ⟨b, a1, a2, a3⟩ => ⟨b, a1, a2.more (fun i _ hq => Nat.le_trans hv.size hq), hv.trans (below_le hv.size a3), a3⟩
          have HDT : Hid (∀ v, Below W.heap.size W v → Calls Tryz.prog 39 #[.pointer (some ⟨p.db, 0, none⟩)] v fun e w' => ∃ b, e = .returned (.pointer (some ⟨b, 0, none⟩)) ∧ DedAt w' (fun i => W.heap.size ≤ i) b N p.m.ded ∧ Below W.heap.size W w' ∧ Below v.heap.size v w') := fun v hv =>
            (dedTwin_any (HDdW.out.ext hv)).mono fun e w' ⟨b, a1, a2, a3⟩ => ⟨b, a1, a2.more (fun i _ hq => Nat.le_trans hv.size hq), hv.trans (below_le hv.size a3), a3⟩
          have FE : Hid (∀ v, Below W.heap.size W v → Turned (fun i => i = tb ∨ (curV Vc n).ownBlock = some i) W v) := fun v hv => Turned.of_below hv
          have hptb : pc ≠ tb := by have := HLm.out.2.1; omega
          have htn : ¬ (t = tb ∨ (curV Vc n).ownBlock = some t) := fun e => by
            rcases e with e | e
            · exact HLm.out.2.2.2 e.symm
            · exact (HLm.out.2.2.1 t e).2 rfl
          have hpn : ¬ (pc = tb ∨ (curV Vc n).ownBlock = some pc) := fun e => by
            rcases e with e | e
            · exact hptb e
            · have := (HLm.out.2.2.1 pc e).1
              omega
          have FS : Hid (∀ v, Turned (fun i => i = tb ∨ (curV Vc n).ownBlock = some i) W v → v.cell? ⟨t, 0, none⟩ = some (.map (some tb)) ∧ v.cell? ⟨pc, 0, none⟩ = some (.pointer (some ⟨p.lb, 0, none⟩)) ∧ v.cell? ⟨pc, 1, none⟩ = some (.pointer (some ⟨p.db, 0, none⟩))) := fun v hv => ⟨(HStW.out.bk.turned hv htn).cell 0, (HKp.out.turned hv hpn).cell 0, (HKp.out.turned hv hpn).cell 1⟩
          have F00 : Hid (Below W.heap.size W W.drew) := below_drew1 (Below.refl _ _)
          have F0 : Hid (Turned (fun i => i = tb ∨ (curV Vc n).ownBlock = some i) W W.drew) := FE.out _ F00.out
          have hlk0 := hlk W.drew F00.out
          clear hptb htn hpn hcN
          go_region_held3 (fun v => v.cell? ⟨t, 0, none⟩ = some (.map (some tb)) ∧ v.cell? ⟨pc, 0, none⟩ = some (.pointer (some ⟨p.lb, 0, none⟩)) ∧ v.cell? ⟨pc, 1, none⟩ = some (.pointer (some ⟨p.db, 0, none⟩))) (first | exact FS.out _ F0.out | exact FS.out _ (FE.out _ HBf.out) | exact FS.out _ (FE.out _ HB4.out) | exact FS.out _ (FE.out _ HB5.out) | exact FS.out _ (FE.out _ (HBf.out.alloc HBf.out.size _)) | exact FS.out _ (HT6.out.more (fun _ _ e => .inr e)) | exact FS.out _ HE7.out) (first | (go_at_call 38; first | (with_reducible refine (HLT.out w5 HB5.out).mono ?_; rintro er w4 ⟨lb', rfl, hl4, hb4, hx4⟩; have HLf := Lib.hid hl4; have HDf := Lib.hid (DedAt.ext HD5.out hx4); have HBf := Lib.hid hb4; have hlk4 := hlk w4 hb4; have hlka := fun ob => hlk (w4.alloc ob) (hb4.alloc hb4.size ob); clear hl4 hx4 hb4) | (with_reducible refine (HLT.out _ F00.out).mono ?_; rintro er w4 ⟨lb', rfl, hl4, hb4, hx4⟩; have HL4 := Lib.hid hl4; have HB4 := Lib.hid hb4; have hlk4 := hlk w4 hb4; clear hl4 hx4 hb4)) | (go_at_call 39; first | (with_reducible refine (HDT.out w4 HB4.out).mono ?_; rintro er w5 ⟨db', rfl, hd5, hb5, hx5⟩; have HDf := Lib.hid hd5; have HLf := Lib.hid (LogAt.ext HL4.out hx5); have HBf := Lib.hid hb5; have hlk5 := hlk w5 hb5; have hlka := fun ob => hlk (w5.alloc ob) (hb5.alloc hb5.size ob); clear hd5 hx5 hb5) | (with_reducible refine (HDT.out _ F00.out).mono ?_; rintro er w5 ⟨db', rfl, hd5, hb5, hx5⟩; have HD5 := Lib.hid hd5; have HB5 := Lib.hid hb5; have hlk5 := hlk w5 hb5; clear hd5 hx5 hb5)) | (first | ((refine step_append_at (by rfl) (.tmp 42) (.tmp 50) 86 (by rfl) 78 ii _ 2 16 Tryz.underlying86 HI.out HZ.out HSz.out HY.out (by rfl) (by omega) (curV Vc n) (curP Vc n).length ((curP Vc n).flatMap PartW.cells) (by rfl) (World.ownsRow.kept HRow.out (grown_of_below (HBf.out.alloc HBf.out.size _)) (Classical.em _)) ⟨w5.heap.size, 0, none⟩ 1 1 [.pointer (some ⟨lb', 0, none⟩), .pointer (some ⟨db', 0, none⟩)] (by rfl) (by rfl) (cells_newm w5 _ (0, 0) _ _ rfl _ rfl) (one_all rfl) (by unfold maxLen; omega) (by omega) ((curP Vc n).length + 1) rfl ?_); intro A6 c6 w6 ho6 hg6 hx6; have HT6 : Hid (Turned (fun i => (curV Vc n).ownBlock = some i) W w6) := (Turned.of_below (HBf.out.alloc HBf.out.size (.cells #[.pointer (some ⟨lb', 0, none⟩), .pointer (some ⟨db', 0, none⟩)] 78))).then_grown hg6.out (fun k e => .inl e); have HF6 : Hid (∃ w2 w3, Below W.heap.size W w2 ∧ LogAt w2 (fun i => W.heap.size ≤ i) lb' p.m.log ∧ DedAt w2 (fun i => W.heap.size ≤ i) db' N p.m.ded ∧ Below w2.heap.size w2 w3 ∧ w3.grownBy w6 (curV Vc n).ownBlock ∧ ((Value.slice A6 ((curP Vc n).length + 1) c6).ownBlock = (curV Vc n).ownBlock ∨ (Value.slice A6 ((curP Vc n).length + 1) c6).ownBlock = some w3.heap.size)) := ⟨w5, _, HBf.out, HLf.out, HDf.out, below_new _ _, hg6.out, hx6.out⟩; go_loud (obtain ⟨w7, hrun7, ho7, hg7⟩ := World.ownsMap.update (map_turned HMp.out HT6.out HNtb.out) key_strd Tryz.underlying62 (by unfold maxLen; omega) (key := .string n) (val := .slice A6 ((curP Vc n).length + 1) c6) (kl := .string (namL n)) (d := .held (.slice A6 ((curP Vc n).length + 1) c6)) (ps := []) (key_str_is (by have := HnS.out; unfold maxLen; omega)) rfl); have HO7 := Lib.hid ho7; have HG7 := Lib.hid hg7; have HE7 : Hid (Turned (fun i => i = tb ∨ (curV Vc n).ownBlock = some i) W w7) := (HT6.out.more (fun _ _ e => .inr e)).then_grown hg7 (fun k e => .inl (.inl (Option.some.inj e).symm)); clear ho7 hg7) | ((refine step_append_at (by rfl) (.tmp 42) (.tmp 50) 86 (by rfl) 78 ii _ 2 16 Tryz.underlying86 HI.out HZ.out HSz.out HY.out (by rfl) (by omega) (curV Vc n) (curP Vc n).length ((curP Vc n).flatMap PartW.cells) (by rfl) (World.ownsRow.kept HRow.out (grown_of_below (HBf.out.alloc HBf.out.size _)) (Classical.em _)) ⟨w4.heap.size, 0, none⟩ 1 1 [.pointer (some ⟨lb', 0, none⟩), .pointer (some ⟨db', 0, none⟩)] (by rfl) (by rfl) (cells_newm w4 _ (0, 0) _ _ rfl _ rfl) (one_all rfl) (by unfold maxLen; omega) (by omega) ((curP Vc n).length + 1) rfl ?_); intro A6 c6 w6 ho6 hg6 hx6; have HT6 : Hid (Turned (fun i => (curV Vc n).ownBlock = some i) W w6) := (Turned.of_below (HBf.out.alloc HBf.out.size (.cells #[.pointer (some ⟨lb', 0, none⟩), .pointer (some ⟨db', 0, none⟩)] 78))).then_grown hg6.out (fun k e => .inl e); have HF6 : Hid (∃ w2 w3, Below W.heap.size W w2 ∧ LogAt w2 (fun i => W.heap.size ≤ i) lb' p.m.log ∧ DedAt w2 (fun i => W.heap.size ≤ i) db' N p.m.ded ∧ Below w2.heap.size w2 w3 ∧ w3.grownBy w6 (curV Vc n).ownBlock ∧ ((Value.slice A6 ((curP Vc n).length + 1) c6).ownBlock = (curV Vc n).ownBlock ∨ (Value.slice A6 ((curP Vc n).length + 1) c6).ownBlock = some w3.heap.size)) := ⟨w4, _, HBf.out, HLf.out, HDf.out, below_new _ _, hg6.out, hx6.out⟩; go_loud (obtain ⟨w7, hrun7, ho7, hg7⟩ := World.ownsMap.update (map_turned HMp.out HT6.out HNtb.out) key_strd Tryz.underlying62 (by unfold maxLen; omega) (key := .string n) (val := .slice A6 ((curP Vc n).length + 1) c6) (kl := .string (namL n)) (d := .held (.slice A6 ((curP Vc n).length + 1) c6)) (ps := []) (key_str_is (by have := HnS.out; unfold maxLen; omega)) rfl); have HO7 := Lib.hid ho7; have HG7 := Lib.hid hg7; have HE7 : Hid (Turned (fun i => i = tb ∨ (curV Vc n).ownBlock = some i) W w7) := (HT6.out.more (fun _ _ e => .inr e)).then_grown hg7 (fun k e => .inl (.inl (Option.some.inj e).symm)); clear ho7 hg7)) | fail)
          all_goals
            go_wp2_with fail
            obtain ⟨x2, x3, f1, f2, f3, f4, f5, f6⟩ := HF6.out
            exact ⟨⟨j + 1, by omega, by go_num, TwJ.step HS.out HRgW.out HStW.out Ho'.out Hcur.out HBW.out HNo.out (by have := HSt.out; omega) HnS.out HFar.out Hp.out (by omega) f1 f2 f3 HLog.out.2 HDed.out.2 f4 ho6.out f5 f6 HO7.out HG7.out⟩, by simp [intOf]; omega⟩
        · obtain rfl : j = T.ps.length := by omega
          have hi : ¬ (T.ps.length : Int) < T.ps.length := by omega
          obtain ⟨o', Vc, hst, ho', hcur⟩ := hJ.out.st
          rw [List.take_length] at hcur
          obtain ⟨v, ps, rfl, hps⟩ : ∃ v ps, Vc = insW ⟨n, v, ps⟩ V' ∧ ps.map PartW.m = T.ps.map PartW.m := by
            rcases hcur with ⟨_, e⟩ | h
            · exact absurd (List.map_eq_nil_iff.1 e) (HNe.out T HTm.out)
            · exact h
          have hTI2 : TwI w wr S N t tb g gb r (fun z => left z && !z.sameKey (.string (namL n))) cnt1 (insW ⟨n, v, ps⟩ V') := ⟨hJ.out.rg, ⟨o', hst, ho'⟩, hJ.out.below, HFar.out⟩
          have hTm2 : (⟨n, v, ps⟩ : TopW).m = T.m := by
            show (n, ps.map PartW.m) = (T.name, T.ps.map PartW.m)
            rw [hps, HTn.out]
          have hmem2 : ∀ x, x ∈ (insW ⟨n, v, ps⟩ V').map TopW.m ↔ x ∈ S.V.map TopW.m ∧ (left (.string (namL x.1)) && !(Lit.string (namL x.1)).sameKey (.string (namL n))) = false := by
            intro x
            constructor
            · intro hx
              obtain ⟨u, hu, rfl⟩ := List.mem_map.1 hx
              rcases mem_ins.1 hu with rfl | hu
              · refine ⟨by rw [hTm2]; exact List.mem_map.2 ⟨T, HTm.out, rfl⟩, ?_⟩
                show (left (.string (namL n)) && !(Lit.string (namL n)).sameKey (.string (namL n))) = false
                rw [WideAt.sameKey_self (show WideAt.IsKeyLit (.string (namL n)) from trivial)]
                simp
              · have h1 := (hmem.out u.m).1 (List.mem_map.2 ⟨u, hu, rfl⟩)
                refine ⟨h1.1, ?_⟩
                rw [h1.2]
                rfl
            · rintro ⟨hx, hl⟩
              obtain ⟨u, hu, rfl⟩ := List.mem_map.1 hx
              cases hlu : left (.string (namL u.m.1)) with
              | false =>
                obtain ⟨u2, hu2, e2⟩ := List.mem_map.1 ((hmem.out u.m).2 ⟨hx, hlu⟩)
                exact List.mem_map.2 ⟨u2, mem_ins.2 (.inr hu2), e2⟩
              | true =>
                rw [hlu] at hl
                have hs0 : (Lit.string (namL u.m.1)).sameKey (.string (namL n)) = true := by simpa using hl
                have hs : (u.ent.1).sameKey (.string (namL n)) = true := hs0
                rw [ent_same] at hs
                have hun : u.name = n := by simpa using hs
                obtain ⟨k, hk⟩ := List.getElem?_of_mem hu
                have h1 := find_at' HS.out.sorted hk
                rw [hun, HT.out] at h1
                have h2 := Option.some.inj h1
                subst h2
                exact List.mem_map.2 ⟨_, mem_ins.2 (.inl rfl), hTm2⟩
          have HTI2 := Lib.hid hTI2
          have HM2 := Lib.hid hmem2
          have hlen : (insW ⟨n, v, ps⟩ V').length = V'.length + 1 := len_ins _ _
          have HLn := Lib.hid hlen
          clear hTI2 hmem2 hst ho' hcur hps hTm2 hlen hJ
          go_wp2_with fail
          refine ⟨⟨_, cnt1, _, HTI2, HM2, ?_⟩, ?_⟩
          · rw [HLn.out]
            exact HSt.out.2
          · rw [HTI2.out.rg.left_eq, HLe.out.1]
            exact HLe.out.2
end Go.Proofs.YtjodiieeocaipaaGreatDoor

/-
  stavebook.Same: two lists of topics, two lists of heads that read alike.
-/
namespace Go.Proofs.YtjodiieeocaipaaGreatDoor
open Go.RowKit Go.Maps

def ldTq (v : Value) : Sem Value := Instr.loadAt 58 v
theorem ldTq_eq (v : Value) : Instr.loadAt 58 v = ldTq v := rfl
theorem size_tq : (Tryz.prog.info? 58).map (·.size) = some 2 := by kernel_rfl
theorem ldTq_at {w : World} {g o : Nat} {a : ByteArray} {b : Int} (h : ∀ j u, ([.string a, .int .i64 b] : List Value)[j]? = some u → w.cell? ⟨g, o + j, none⟩ = some u) : (ldTq (.pointer (some ⟨g, o, none⟩))).run Tryz.prog w = .ok (.agg #[.string a, .int .i64 b]) w := by
  exact run_loadAt_mid w g o 58 [.string a, .int .i64 b] _ h Tryz.underlying58 rfl size_tq
def neTq (x y : Value) : Sem Value := binOp .neq 58 x y
theorem neTq_eq (x y : Value) : binOp .neq 58 x y = neTq x y := rfl
def guTq (a b : Operand) (x y : Value) : Sem Unit := eqGuard .neq 58 a b x y
theorem guTq_eq (a b : Operand) (x y : Value) : eqGuard .neq 58 a b x y = guTq a b x y := rfl
theorem gu_tq (x y : Operand) (xs ys : Array Value) (w : World) : (guTq x y (.agg xs) (.agg ys)).run Tryz.prog w = .ok () w := run_eqGuard_agg w .neq _ _ _ _ _ (by kernel_rfl)
theorem fields_tq : Tryz.prog.underlying 58 = some (.struct (Tryz.prog.fieldsOf 58)) := by kernel_rfl
theorem ne_tq (a : ByteArray) (b : Int) (w : World) : (neTq (.agg #[.string a, .int .i64 b]) (.agg #[.string a, .int .i64 b])).run Tryz.prog w = .ok (.bool false) w := by
  unfold neTq
  rw [run_neq_struct, run_equalIn_struct w 9999 _ _ _ fields_tq (by kernel_rfl)]
  simp [go_sem, Program.fieldsOf, Tryz.underlying58]
theorem RdK.one {w : World} {k n c : Nat} {A : Option Addr} {rows : List (List Value)} (h : RdK w k A n c rows) (hn : 0 < n) : ∃ g, A = some ⟨g, 0, none⟩ := by
  have hl := h.len
  obtain ⟨x, hx⟩ : ∃ x, rows[0]? = some x := ⟨rows[0]'(by omega), List.getElem?_eq_getElem _⟩
  obtain ⟨g, e, _⟩ := h.cell 0 x hx
  exact ⟨g, e⟩
attribute [local go_sem ↓] ldTq_eq neTq_eq guTq_eq
set_option maxRecDepth 100000 in
set_option maxHeartbeats 1000000 in
theorem sameTq_any (A1 A2 : Option Addr) (n c1 c2 : Nat) (l : List (ByteArray × List PartM)) (w : World) (h1 : RdK w 2 A1 n c1 (l.map rowM)) (h2 : RdK w 2 A2 n c2 (l.map rowM)) :
    Calls Tryz.prog 40 #[.slice A1 n c1, .slice A2 n c2] w fun e w' => e = .returned (.bool true) ∧ Below w.heap.size w w' := by
  have hlen := h1.len
  rw [List.length_map] at hlen
  have hc1 := h1.cap
  have hb1 := h1.big
  have hc2 := h2.cap
  have hb2 := h2.big
  have H1 := Lib.hid h1
  have H2 := Lib.hid h2
  have HLen := Lib.hid hlen
  clear h1 h2 hlen
  go_enter Tryz.func40, Tryz.ntmps40
  go_wp2_with fail
  go_loopw [5] (fun i wr => ∃ k : Nat, k ≤ n ∧ i = .int .i64 k ∧ Hid (Below w.heap.size w wr)) (fun i _ => n - (intOf i).toNat)
  case atStart => exact ⟨0, Nat.zero_le _, rfl, Below.refl _ _⟩
  case round =>
    obtain ⟨k, hk, rfl, hBel⟩ := hrel
    by_cases hlt : k < n
    · have hi : (k : Int) < n := by omega
      obtain ⟨t, ht⟩ : ∃ t, l[k]? = some t := ⟨l[k]'(by have := HLen.out; omega), List.getElem?_eq_getElem _⟩
      obtain ⟨g1, rfl, _, e1⟩ := (H1.out.ext hBel.out).cell k (rowM t) (by rw [List.getElem?_map, ht]; rfl)
      obtain ⟨g2, rfl, _, e2⟩ := (H2.out.ext hBel.out).cell k (rowM t) (by rw [List.getElem?_map, ht]; rfl)
      have hl1 : ∀ q, (ldTq (.pointer (some ⟨g1, k * 2, none⟩))).run Tryz.prog (wr.drewN q) = .ok (.agg #[.string t.1, .int .i64 t.2.length]) (wr.drewN q) := fun q => ldTq_at (fun j u hu => e1 j u hu)
      have hl2 : ∀ q, (ldTq (.pointer (some ⟨g2, k * 2, none⟩))).run Tryz.prog (wr.drewN q) = .ok (.agg #[.string t.1, .int .i64 t.2.length]) (wr.drewN q) := fun q => ldTq_at (fun j u hu => e2 j u hu)
      have hne := fun v => ne_tq t.1 (t.2.length : Int) v
      have hgu := fun x y v => gu_tq x y #[.string t.1, .int .i64 t.2.length] #[.string t.1, .int .i64 t.2.length] v
      clear e1 e2 ht
      go_upto_region 6 with fail
      go_quiet (fail)
      have HB : Hid (Below w.heap.size w (wr.drewN nq)) := hBel.out.trans (below_le hBel.out.size ⟨rfl, rfl, rfl, Nat.le_refl _, fun _ _ => rfl⟩)
      generalize wr.drewN nq = Y at HB ⊢
      clear hl1 hl2 hne hgu
      go_wp2_with fail
      exact ⟨⟨k + 1, by omega, by go_num, HB⟩, by simp [intOf]; omega⟩
    · have hi : ¬ (k : Int) < n := by omega
      go_wp2_with fail
      go_ret
      exact ⟨rfl, hBel.out⟩
end Go.Proofs.YtjodiieeocaipaaGreatDoor

/-
  stavebook.Same: two lists of heads that read alike.
-/
namespace Go.Proofs.YtjodiieeocaipaaGreatDoor
open Go.RowKit Go.Maps

def neHq (x y : Value) : Sem Value := binOp .neq 95 x y
theorem neHq_eq (x y : Value) : binOp .neq 95 x y = neHq x y := rfl
def guHq (a b : Operand) (x y : Value) : Sem Unit := eqGuard .neq 95 a b x y
theorem guHq_eq (a b : Operand) (x y : Value) : eqGuard .neq 95 a b x y = guHq a b x y := rfl
theorem gu_hq (x y : Operand) (xs ys : Array Value) (w : World) : (guHq x y (.agg xs) (.agg ys)).run Tryz.prog w = .ok () w := run_eqGuard_agg w .neq _ _ _ _ _ (by kernel_rfl)
theorem fields_hq : Tryz.prog.underlying 95 = some (.struct (Tryz.prog.fieldsOf 95)) := by kernel_rfl
theorem ne_hq (x : Hd) (w : World) : (neHq (.agg #[.int .i64 x.base, .int .i64 x.cnt, .int .i64 x.time, .int .i64 x.stripe, .int .i64 x.ent]) (.agg #[.int .i64 x.base, .int .i64 x.cnt, .int .i64 x.time, .int .i64 x.stripe, .int .i64 x.ent])).run Tryz.prog w = .ok (.bool false) w := by
  unfold neHq
  rw [run_neq_struct, run_equalIn_struct w 9999 _ _ _ fields_hq (by kernel_rfl)]
  simp [go_sem, Program.fieldsOf, Tryz.underlying95]
attribute [local go_sem ↓] ldH_eq neHq_eq guHq_eq
set_option maxRecDepth 100000 in
set_option maxHeartbeats 1000000 in
theorem sameHq_any (A1 A2 : Option Addr) (n c1 c2 : Nat) (l : List Hd) (w : World) (h1 : RdK w 5 A1 n c1 (l.map Hd.cells)) (h2 : RdK w 5 A2 n c2 (l.map Hd.cells)) :
    Calls Tryz.prog 42 #[.slice A1 n c1, .slice A2 n c2] w fun e w' => e = .returned (.bool true) ∧ Below w.heap.size w w' := by
  have hlen := h1.len
  rw [List.length_map] at hlen
  have hc1 := h1.cap
  have hb1 := h1.big
  have hc2 := h2.cap
  have hb2 := h2.big
  have H1 := Lib.hid h1
  have H2 := Lib.hid h2
  have HLen := Lib.hid hlen
  clear h1 h2 hlen
  go_enter Tryz.func42, Tryz.ntmps42
  go_wp2_with fail
  go_loopw [5] (fun i wr => ∃ k : Nat, k ≤ n ∧ i = .int .i64 k ∧ Hid (Below w.heap.size w wr)) (fun i _ => n - (intOf i).toNat)
  case atStart => exact ⟨0, Nat.zero_le _, rfl, Below.refl _ _⟩
  case round =>
    obtain ⟨k, hk, rfl, hBel⟩ := hrel
    by_cases hlt : k < n
    · have hi : (k : Int) < n := by omega
      obtain ⟨t, ht⟩ : ∃ t, l[k]? = some t := ⟨l[k]'(by have := HLen.out; omega), List.getElem?_eq_getElem _⟩
      obtain ⟨g1, rfl, _, e1⟩ := (H1.out.ext hBel.out).cell k t.cells (by rw [List.getElem?_map, ht]; rfl)
      obtain ⟨g2, rfl, _, e2⟩ := (H2.out.ext hBel.out).cell k t.cells (by rw [List.getElem?_map, ht]; rfl)
      have hl1 : ∀ q, (ldH (.pointer (some ⟨g1, k * 5, none⟩))).run Tryz.prog (wr.drewN q) = .ok (.agg #[.int .i64 t.base, .int .i64 t.cnt, .int .i64 t.time, .int .i64 t.stripe, .int .i64 t.ent]) (wr.drewN q) := fun q => ldH_at (h := t) (fun j u hu => e1 j u hu)
      have hl2 : ∀ q, (ldH (.pointer (some ⟨g2, k * 5, none⟩))).run Tryz.prog (wr.drewN q) = .ok (.agg #[.int .i64 t.base, .int .i64 t.cnt, .int .i64 t.time, .int .i64 t.stripe, .int .i64 t.ent]) (wr.drewN q) := fun q => ldH_at (h := t) (fun j u hu => e2 j u hu)
      have hne := fun v => ne_hq t v
      have hgu := fun x y v => gu_hq x y #[.int .i64 t.base, .int .i64 t.cnt, .int .i64 t.time, .int .i64 t.stripe, .int .i64 t.ent] #[.int .i64 t.base, .int .i64 t.cnt, .int .i64 t.time, .int .i64 t.stripe, .int .i64 t.ent] v
      clear e1 e2 ht
      go_upto_region 6 with fail
      go_quiet (fail)
      have HB : Hid (Below w.heap.size w (wr.drewN nq)) := hBel.out.trans (below_le hBel.out.size ⟨rfl, rfl, rfl, Nat.le_refl _, fun _ _ => rfl⟩)
      generalize wr.drewN nq = Y at HB ⊢
      clear hl1 hl2 hne hgu
      go_wp2_with fail
      exact ⟨⟨k + 1, by omega, by go_num, HB⟩, by simp [intOf]; omega⟩
    · have hi : ¬ (k : Int) < n := by omega
      go_wp2_with fail
      go_ret
      exact ⟨rfl, hBel.out⟩
end Go.Proofs.YtjodiieeocaipaaGreatDoor

/-
  Several States side by side.
-/
namespace Go.Proofs.YtjodiieeocaipaaGreatDoor
open Go.RowKit Go.Maps

/-- the State behind block s is M; its blocks are those of O; they came since w0 -/
def SO (w0 w : World) (s N : Nat) (M : StM) (O : Nat → Prop) : Prop := ∃ (o : Nat → Option Who) (S : StW), StAt w o s N S ∧ S.m = M ∧ (∀ i, O i ↔ o i ≠ none) ∧ ∀ i, O i → w0.heap.size ≤ i
theorem SO.lim {w0 w : World} {s N : Nat} {M : StM} {O : Nat → Prop} (h : SO w0 w s N M O) {i : Nat} (hi : O i) : i < w.heap.size := by
  obtain ⟨o, S, h1, _, h3, _⟩ := h
  exact h1.lim i ((h3 i).1 hi)
theorem SO.turned {w0 w w' : World} {s N : Nat} {M : StM} {O Q : Nat → Prop} (h : SO w0 w s N M O) (ht : Turned Q w w') (hq : ∀ i, O i → ¬ Q i) : SO w0 w' s N M O := by
  obtain ⟨o, S, h1, h2, h3, h4⟩ := h
  exact ⟨o, S, h1.turned ht (fun i _ ho hQ => hq i ((h3 i).2 ho) hQ), h2, h3, h4⟩
theorem SO.ext {w0 w w' : World} {s N : Nat} {M : StM} {O : Nat → Prop} (h : SO w0 w s N M O) (hb : Below w.heap.size w w') : SO w0 w' s N M O := h.turned (Q := fun _ => False) (Turned.of_below hb) (fun _ _ => id)
theorem SO.more {w0 w : World} {s N N' : Nat} {M : StM} {O : Nat → Prop} (h : SO w0 w s N M O) (hn : N ≤ N') : SO w0 w s N' M O := by
  obtain ⟨o, S, h1, h2⟩ := h
  exact ⟨o, S, h1.mono hn, h2⟩
theorem so_new (w0 w : World) (h0 : w0.heap.size ≤ w.heap.size) : Calls Tryz.prog 10 #[] w fun e w' => ∃ s O, e = .returned (.pointer (some ⟨s, 0, none⟩)) ∧ SO w0 w' s 0 newSt O ∧ (∀ i, O i → w.heap.size ≤ i) ∧ Below w.heap.size w w' :=
  (stNew_any w).mono fun _ _ ⟨s, o, S, h1, h2, h3, h4, h5⟩ => ⟨s, fun i => o i ≠ none, h1, ⟨o, S, h3, h2, fun _ => Iff.rfl, fun i hi => Nat.le_trans h0 (h4 i hi)⟩, fun i hi => h4 i hi, h5⟩
theorem so_step {w0 w : World} {s N : Nat} {M M' : StM} {O : Nat → Prop} (h : SO w0 w s N M O) (h0 : w0.heap.size ≤ w.heap.size) (hN : N ≤ 900000) (e : Ent) (A : Option Addr) (n c : Nat) (hrd : RdT w A n c e.bat.vals) (stripe at_ : Int) {D : DoneM} {k : Int} (hM : applyM M e stripe at_ = (M', D, k)) :
    Calls Tryz.prog 11 #[.pointer (some ⟨s, 0, none⟩), .agg #[.int .i64 e.kind, .string e.topic, .string e.group, .int .i64 e.part, .int .i64 e.parts, .int .i64 e.first, .int .i64 e.off, .int .i64 e.bat.time, .int .i64 e.bat.prod, .int .i64 e.bat.seq, .slice A n c], .int .i64 stripe, .int .i64 at_] w
      fun er w' => ∃ v O', er = .returned (.tuple #[.agg #[.int .i64 D.base, .int .i64 D.cnt, .bool D.again], v]) ∧ ErrV2 v k ∧ SO w0 w' s (N + 1) M' O' ∧ (∀ i, i < w.heap.size → (O' i ↔ O i)) ∧ Turned O w w' := by
  obtain ⟨o, S, h1, rfl, h3, h4⟩ := h
  refine (Apply_any h1 hN e A n c hrd stripe at_).mono ?_
  rintro er w' ⟨v, rfl, hv, ⟨o', S', a1, a2, a3⟩, hT⟩
  rw [hM] at hv a2 ⊢
  refine ⟨v, fun i => o' i ≠ none, rfl, hv, ⟨o', S', a1, a2, fun _ => Iff.rfl, fun i hi => ?_⟩, fun i hi => ?_, hT.more (fun i _ ho => (h3 i).2 ho)⟩
  · by_cases hw : i < w.heap.size
    · replace hi : o' i ≠ none := hi
      rw [a3 i hw] at hi
      exact h4 i ((h3 i).2 hi)
    · omega
  · show o' i ≠ none ↔ O i
    rw [a3 i hi]
    exact (h3 i).symm
theorem so_twin {w0 w : World} {s N : Nat} {M : StM} {O : Nat → Prop} (h : SO w0 w s N M O) (h0 : w0.heap.size ≤ w.heap.size) (hN : N ≤ 900000) (hne : ∀ t ∈ M.top, t.2 ≠ []) :
    Calls Tryz.prog 22 #[.pointer (some ⟨s, 0, none⟩)] w fun e w' => ∃ t O', e = .returned (.pointer (some ⟨t, 0, none⟩)) ∧ SO w0 w' t N M O' ∧ (∀ i, O' i → w.heap.size ≤ i) ∧ Below w.heap.size w w' := by
  obtain ⟨o, S, h1, rfl, h3, h4⟩ := h
  refine (stTwin_any h1 (fun u hu e => hne u.m (List.mem_map.2 ⟨u, hu, rfl⟩) (by show u.ps.map PartW.m = []; rw [e]; rfl)) (by omega)).mono ?_
  rintro er w' ⟨t, o', S', rfl, a1, a2, a3, a4⟩
  exact ⟨t, fun i => o' i ≠ none, rfl, ⟨o', S', a1, a2, fun _ => Iff.rfl, fun i hi => Nat.le_trans h0 (a3 i hi)⟩, a3, a4⟩
theorem so_run {w0 w : World} {s N : Nat} {M : StM} {O : Nat → Prop} (h : SO w0 w s N M O) (hb : Below w0.heap.size w0 w) : Run w0 w s N M (fun _ => False) := by
  obtain ⟨o, S, h1, h2, h3, h4⟩ := h
  exact ⟨o, S, h1, h2, fun i hi => h4 i ((h3 i).2 hi), fun _ hi => hi.elim, hb⟩
/-- each topic has a partition -/
def TopsOk (M : StM) : Prop := ∀ t ∈ M.top, t.2 ≠ []
theorem set_ne {T : TopM} {n : ByteArray} {k : Int} {p : PartM} (h : ∀ t ∈ T, t.2 ≠ []) : ∀ t ∈ setT T n k p, t.2 ≠ [] := by
  intro t ht
  obtain ⟨u, hu, rfl⟩ := List.mem_map.1 ht
  split
  · intro e
    have hl := congrArg List.length e
    rw [List.length_set] at hl
    exact h u hu (List.eq_nil_of_length_eq_zero hl)
  · exact h u hu
theorem right1b {e : Ent} (h : rightE e = true) (hk : e.kind = 1) : 1 ≤ e.parts := by
  have h1 := (right_facts h).1
  have hv : valsE e = [sV e.topic, nV e.parts, nV e.first] := by unfold valsE; rw [hk]; rfl
  rw [hk, hv] at h1
  have h2 : (fitsV nameF (sV e.topic) && (fitsV (nF 1 1 4) (nV e.parts) && (fitsV offF (nV e.first) && true))) = true := h1
  simp only [Bool.and_eq_true, and_true] at h2
  exact (fits_nu h2.2.1).1
theorem TopsOk.apply {M : StM} (h : TopsOk M) (e : Ent) (stripe at_ : Int) : TopsOk (applyM M e stripe at_).1 := by
  unfold applyM
  split
  · rename_i hr
    unfold applyR
    split
    · rename_i hk
      split
      · exact h
      · split
        · exact h
        · intro t ht
          have hp := right1b hr.1 hk
          rcases ins_mem.1 ht with rfl | ht
          · intro e2
            have := congrArg List.length e2
            simp at this
            omega
          · exact h t ht
    · split
      · split
        · intro t ht
          exact h t (List.mem_filter.1 ht).1
        · exact h
      · cases partT M.top e.topic e.part with
        | none => exact h
        | some P =>
          dsimp only
          split
          · split <;> exact h
          · split
            · split
              · exact set_ne h
              · exact h
            · exact set_ne h
  · exact h
theorem topsOk_new : TopsOk newSt := fun _ h => absurd h List.not_mem_nil
end Go.Proofs.YtjodiieeocaipaaGreatDoor

/-
  stavelaw21: twins: two States that are the same look alike.
-/
namespace Go.Proofs.YtjodiieeocaipaaGreatDoor
open Go.RowKit Go.Maps

def stTq (v u : Value) : Sem Unit := Instr.storeAt 58 v u
theorem stTq_eq (v u : Value) : Instr.storeAt 58 v u = stTq v u := rfl
theorem stTq_row {w : World} {G : Nat} {old : Array Value} (h : Bk w G 58 old) (ho : old.size = 2) (a : ByteArray) (b : Int) :
    (stTq (.pointer (some ⟨G, 0, none⟩)) (.agg #[.string a, .int .i64 b])).run Tryz.prog w = .ok () (w.setRow G #[.string a, .int .i64 b]) := by
  unfold stTq
  simp only [Instr.storeAt, Instr.sureAddr, Sem.run_bind, Sem.run_pure, Result.andThen_ok, run_storeVar_row w G _ _ old #[.string a, .int .i64 b] h size_tq (by rw [ho]; rfl) (all_oneCell_toArray (cs := [.string a, .int .i64 b]) (one_all rfl))]
/-- the log of a partition that is there, and what holds of it -/
theorem run_log2 {w0 w : World} {s N : Nat} {M : StM} {K : Nat → Prop} (h : Run w0 w s N M K) (n : ByteArray) (hn : n.size ≤ 1000) (k : Int) {P : PartM} (hp : partT M.top n k = some P) :
    Calls Tryz.prog 17 #[.pointer (some ⟨s, 0, none⟩), .string n, .int .i64 k] w fun e w' => ∃ (lb : Nat) (Q : Nat → Prop), e = .returned (.pointer (some ⟨lb, 0, none⟩)) ∧ LogAt w Q lb P.log ∧ P.log.Ok N ∧ w = w' := by
  obtain ⟨o, S, h1, rfl, h3, h4, h5⟩ := h
  refine (stLog_any h1 n hn k).mono ?_
  rintro e w' ⟨hr, hw⟩
  rcases hr with ⟨hno, _⟩ | ⟨t, kk, p, a1, a2, a3, a4, a5, rfl⟩
  · rw [hp] at hno
    cases hno
  · rw [hp] at a5
    obtain rfl := Option.some.inj a5
    exact ⟨p.lb, _, rfl, ((h1.tops t a1).log kk p a4).1, ((h1.tops t a1).log kk p a4).2, hw⟩
theorem run_short {w0 w : World} {s N : Nat} {M : StM} {K : Nat → Prop} (h : Run w0 w s N M K) : ∀ t ∈ M.top, t.1.size ≤ 1000 ∧ t.2.length ≤ 1000 := by
  obtain ⟨o, S, h1, rfl, _⟩ := h
  intro t ht
  obtain ⟨u, hu, rfl⟩ := List.mem_map.1 ht
  have h2 := h1.tops u hu
  exact ⟨h2.short, by show (u.ps.map PartW.m).length ≤ 1000; rw [List.length_map]; exact h2.few⟩
theorem part_at {T : TopM} (h : T.Pairwise (fun a b => bytesBefore (namL a.1) (namL b.1) = true)) {t : ByteArray × List PartM} (ht : t ∈ T) {k : Nat} (hk : k < t.2.length) : partT T t.1 (k : Int) = some (t.2[k]'hk) := by
  unfold partT
  rw [if_pos (by omega), find_mem h ht]
  show t.2[(k : Int).toNat]? = _
  rw [Int.toNat_natCast, List.getElem?_eq_getElem hk]
attribute [local go_sem ↓] ldTq_eq stTq_eq
set_option maxRecDepth 100000 in
set_option maxHeartbeats 4000000 in
theorem twins_any {w0 w : World} {a b N N' : Nat} {M : StM} {Oa Ob : Nat → Prop} (ha : SO w0 w a N M Oa) (hb : SO w0 w b N' M Ob) (hbl : Below w0.heap.size w0 w) (hN : N ≤ 900000) (hN' : N' ≤ 900000) :
    Calls Tryz.prog 23 #[.pointer (some ⟨a, 0, none⟩), .pointer (some ⟨b, 0, none⟩)] w fun e w' => e = .returned (.bool true) ∧ Below w.heap.size w w' := by
  have hra := so_run ha hbl
  have hrb := so_run hb hbl
  have HRa : Hid (∀ v, Below w.heap.size w v → Run w0 v a N M (fun _ => False)) := fun v hv => (hra.ext hv).less (fun _ h => h.elim)
  have HRb : Hid (∀ v, Below w.heap.size w v → Run w0 v b N' M (fun _ => False)) := fun v hv => (hrb.ext hv).less (fun _ h => h.elim)
  have HTa : Hid (∀ v, Below w.heap.size w v → Calls Tryz.prog 21 #[.pointer (some ⟨a, 0, none⟩)] v fun e w' => ∃ A c, e = .returned (.slice A M.top.length c) ∧ RdK w' 2 A M.top.length c (M.top.map rowM) ∧ Below v.heap.size v w') := fun v hv => run_topics (HRa.out v hv)
  have HTb : Hid (∀ v, Below w.heap.size w v → Calls Tryz.prog 21 #[.pointer (some ⟨b, 0, none⟩)] v fun e w' => ∃ A c, e = .returned (.slice A M.top.length c) ∧ RdK w' 2 A M.top.length c (M.top.map rowM) ∧ Below v.heap.size v w') := fun v hv => run_topics (HRb.out v hv)
  have HSo := Lib.hid (run_sorted hra)
  have HSh := Lib.hid (run_short hra)
  have hfew := run_few hra
  clear ha hb hbl hra hrb
  go_enter Tryz.func23, Tryz.ntmps23
  go_wp2_with fail
  with_reducible refine (HTa.out w (Below.refl _ _)).mono ?_
  rintro er w1 ⟨A1, c1, rfl, hk1, hb1⟩
  have HK1 := Lib.hid hk1
  have HB1 := Lib.hid hb1
  clear hk1 hb1
  go_wp2_with fail
  with_reducible refine (HTb.out w1 HB1.out).mono ?_
  rintro er w2 ⟨A2, c2, rfl, hk2, hb2⟩
  have HSm := Lib.hid (sameTq_any A1 A2 M.top.length c1 c2 M.top w2 (HK1.out.ext hb2) hk2)
  have HB2 := Lib.hid (HB1.out.trans (below_le HB1.out.size hb2))
  clear hk2 hb2
  go_wp2_with fail
  with_reducible refine HSm.out.mono ?_
  rintro er w3 ⟨rfl, hb3⟩
  have HB3 := Lib.hid (HB2.out.trans (below_le HB2.out.size hb3))
  clear hb3 HSm
  go_wp2_with fail
  with_reducible refine (HTa.out w3 HB3.out).mono ?_
  rintro er w4 ⟨A4, c4, rfl, hk4, hb4⟩
  have HK4 := Lib.hid hk4
  have HB4 := Lib.hid (HB3.out.trans (below_le HB3.out.size hb4))
  clear hk4 hb4 HK1 HB1 HB2 HB3
  go_wp2_with fail
  go_loopw [28] (fun i wr => ∃ q : Nat, q ≤ M.top.length ∧ i = .int .i64 q ∧ Hid (Below w4.heap.size w4 wr)) (fun i _ => M.top.length - (intOf i).toNat)
  case atStart => exact ⟨0, by omega, rfl, Below.refl _ _⟩
  case round =>
    obtain ⟨q, hq, rfl, hBel⟩ := hrel
    by_cases hql : q < M.top.length
    · have hi3 : (q : Int) < M.top.length := by omega
      obtain ⟨t, ht⟩ : ∃ t, M.top[q]? = some t := ⟨M.top[q], List.getElem?_eq_getElem hql⟩
      have HTm := Lib.hid (List.mem_of_getElem? ht)
      obtain ⟨g, rfl, hg, hcell⟩ := (HK4.out.ext hBel.out).cell q (rowM t) (by rw [List.getElem?_map, ht]; rfl)
      have hld := ldTq_at (g := g) (o := q * 2) (a := t.1) (b := (t.2.length : Int)) (fun i u hu => hcell i u hu)
      have hkx := Bk.made wr 58 #[.string ⟨#[]⟩, .int .i64 0]
      have hst := stTq_row hkx rfl t.1 (t.2.length : Int)
      have hbx0 := below_new wr (.cells #[.string ⟨#[]⟩, .int .i64 0] 58)
      have hbx := below_row hbx0 hbx0.size (Nat.le_refl _) #[.string t.1, .int .i64 t.2.length]
      have HKx := Lib.hid (hkx.row #[.string t.1, .int .i64 t.2.length])
      have HBx := Lib.hid (hBel.out.trans (below_le hBel.out.size hbx))
      have hsh := HSh.out t HTm.out
      clear hkx hbx0 hbx hBel hcell ht hg
      go_upto_region 6 with fail
      obtain ⟨G, hG⟩ : ∃ G, G = wr.heap.size := ⟨_, rfl⟩
      rw [← hG] at HKx HBx ⊢
      generalize (wr.alloc (.cells #[.string ⟨#[]⟩, .int .i64 0] 58)).setRow G #[.string t.1, .int .i64 t.2.length] = X at HKx HBx ⊢
      clear hst hld hG
      go_wp2_with fail
      go_loopw [7] (fun i wi => ∃ k : Nat, k ≤ t.2.length ∧ i = .int .i64 k ∧ Hid (Below X.heap.size X wi)) (fun i _ => t.2.length - (intOf i).toNat)
      case atStart => exact ⟨0, by omega, rfl, Below.refl _ _⟩
      case round =>
        obtain ⟨k, hk, rfl, hBk⟩ := hrel
        have hkc := HKx.out.ext hBk.out
        have d0 : wr.cell? ⟨G, 0, none⟩ = some (.string t.1) := hkc.cell 0
        have d1 : wr.cell? ⟨G, 1, none⟩ = some (.int .i64 t.2.length) := hkc.cell 1
        clear hkc
        by_cases hkl : k < t.2.length
        · have hi4 : (k : Int) < t.2.length := by omega
          have hP := part_at HSo.out HTm.out hkl
          obtain ⟨P, hPe⟩ : ∃ P, t.2[k]'hkl = P := ⟨_, rfl⟩
          rw [hPe] at hP
          have HPt := Lib.hid hP
          have HBX : Hid (Below w.heap.size w X) := HB4.out.trans (below_le HB4.out.size HBx.out)
          have HLa : Hid (∀ v, Below X.heap.size X v → Calls Tryz.prog 17 #[.pointer (some ⟨a, 0, none⟩), .string t.1, .int .i64 k] v fun e w' => ∃ (lb : Nat) (Q : Nat → Prop), e = .returned (.pointer (some ⟨lb, 0, none⟩)) ∧ LogAt v Q lb P.log ∧ P.log.Ok N ∧ v = w') := fun v hv => run_log2 (HRa.out v (HBX.out.trans (below_le HBX.out.size hv))) t.1 hsh.1 k HPt.out
          have HLb : Hid (∀ v, Below X.heap.size X v → Calls Tryz.prog 17 #[.pointer (some ⟨b, 0, none⟩), .string t.1, .int .i64 k] v fun e w' => ∃ (lb : Nat) (Q : Nat → Prop), e = .returned (.pointer (some ⟨lb, 0, none⟩)) ∧ LogAt v Q lb P.log ∧ P.log.Ok N' ∧ v = w') := fun v hv => run_log2 (HRb.out v (HBX.out.trans (below_le HBX.out.size hv))) t.1 hsh.1 k HPt.out
          have FS : Hid (∀ v, Below X.heap.size X v → Below X.heap.size X v ∧ v.cell? ⟨G, 0, none⟩ = some (.string t.1)) := fun v hv => ⟨hv, (HKx.out.ext hv).cell 0⟩
          have F0 : Hid (Below X.heap.size X wr.drew) := hBk.out.trans (below_le hBk.out.size (below_drew1 (Below.refl _ _)))
          clear hP hPe
          go_upto_region 9 with fail
          go_region_held3 (fun v => Below X.heap.size X v ∧ v.cell? ⟨G, 0, none⟩ = some (.string t.1)) (first | exact FS.out _ F0.out) (first | (go_at_call 17; first | (with_reducible refine (HLa.out _ F0.out).mono ?_; rintro er y1 ⟨la, Qa, rfl, hla, hoa, rfl⟩) | (with_reducible refine (HLb.out _ F0.out).mono ?_; rintro er y2 ⟨lb, Qb, rfl, hlb, hob, rfl⟩)) | fail)
          all_goals
            have HYa := Lib.hid hla
            have HYb := Lib.hid hlb
            have HOa := Lib.hid hoa
            have HOb := Lib.hid hob
            clear hla hlb hoa hob d0 d1
            obtain ⟨Y, hY⟩ : ∃ Y, Y = wr.drew := ⟨_, rfl⟩
            have HBY : Hid (Below X.heap.size X Y) := by rw [hY]; exact F0.out
            rw [← hY] at HYa HYb ⊢
            clear hY F0 FS
            have HSa : Hid (∀ v, Below Y.heap.size Y v → Calls Tryz.prog 20 #[.pointer (some ⟨la, 0, none⟩)] v fun e w' => e = .returned (.int .i64 P.log.start) ∧ v = w') := fun v hv => logStart_any (HYa.out.ext hv)
            have HSb : Hid (∀ v, Below Y.heap.size Y v → Calls Tryz.prog 20 #[.pointer (some ⟨lb, 0, none⟩)] v fun e w' => e = .returned (.int .i64 P.log.start) ∧ v = w') := fun v hv => logStart_any (HYb.out.ext hv)
            have HNa := Lib.hid (logNext_any HYa.out)
            have HNb := Lib.hid (logNext_any HYb.out)
            have HFa := Lib.hid (logFrom_any HYa.out HOa.out (by omega))
            go_wp2_with (first | (go_at_call 20; first | (with_reducible refine (HSa.out Y (Below.refl _ _)).mono ?_; rintro er y3 ⟨rfl, rfl⟩) | (with_reducible refine (HSb.out Y (Below.refl _ _)).mono ?_; rintro er y3 ⟨rfl, rfl⟩)) | (go_at_call 18; first | (with_reducible refine HNa.out.mono ?_; rintro er y3 ⟨rfl, rfl⟩) | (with_reducible refine HNb.out.mono ?_; rintro er y3 ⟨rfl, rfl⟩)) | fail)
            with_reducible refine HFa.out.mono ?_
            rintro er w6 ⟨A6, c6, rfl, hk6, hb6⟩
            have HK6 := Lib.hid hk6
            have HB6 := Lib.hid hb6
            have HFb := Lib.hid (logFrom_any (HYb.out.ext hb6) HOb.out (by omega))
            have HSb6 := Lib.hid (HSb.out w6 hb6)
            clear hk6 hb6 HFa
            go_wp2_with (first | (go_at_call 20; with_reducible refine HSb6.out.mono ?_; rintro er y3 ⟨rfl, rfl⟩) | fail)
            with_reducible refine HFb.out.mono ?_
            rintro er w7 ⟨A7, c7, rfl, hk7, hb7⟩
            have HSm := Lib.hid (sameHq_any A6 A7 (fromM P.log).length c6 c7 (fromM P.log) w7 (HK6.out.ext hb7) hk7)
            have HB7 := Lib.hid (HB6.out.trans (below_le HB6.out.size hb7))
            clear hk7 hb7 HFb HSb6
            go_wp2_with fail
            with_reducible refine HSm.out.mono ?_
            rintro er Z ⟨rfl, hb8⟩
            have HBZ : Hid (Below X.heap.size X Z) := HBY.out.trans (below_le HBY.out.size (HB7.out.trans (below_le HB7.out.size hb8)))
            clear hb8 HSm HB7 HB6 HK6
            go_wp2_with fail
            go_loopw [14] (fun i wj => ∃ e : Nat, e ≤ 3 ∧ i = .int .i64 e ∧ Hid (Below Z.heap.size Z wj)) (fun i _ => 3 - (intOf i).toNat)
            case atStart => exact ⟨0, by omega, rfl, Below.refl _ _⟩
            case round =>
              obtain ⟨e, he, rfl, hBj⟩ := hrel
              by_cases hel : e < 3
              · have hi5 : (e : Int) < 3 := by omega
                have hkwf : (Lit.int .i64 (k : Int)).wf = true := wf_of (by omega) (by omega)
                have hBj2 : Below X.heap.size X wr := HBZ.out.trans (below_le HBZ.out.size hBj.out)
                have HWd : Hid (∀ v, Below Z.heap.size Z v → Calls Tryz.prog 30 #[.int .i64 e] v fun er w' => er = .returned (.string (wd (wn e))) ∧ Below Z.heap.size Z w') := fun v hv => (kword_any e v (by omega) (by omega)).mono fun er w' h => ⟨h.1, hv.trans (below_le hv.size h.2)⟩
                have HBZw : Hid (Below w.heap.size w Z) := HBX.out.trans (below_le HBX.out.size HBZ.out)
                have HMa : Hid (∀ v, Below Z.heap.size Z v → Calls Tryz.prog 16 #[.pointer (some ⟨a, 0, none⟩), .string (wd (wn e)), .string t.1, .int .i64 k] v fun er w' => er = .returned (.tuple #[.int .i64 (markOf M.grp (mkey (wd (wn e)) t.1 k)), .bool (Maps.has M.grp (mkey (wd (wn e)) t.1 k))]) ∧ v = w') := fun v hv => run_marked (HRa.out v (HBZw.out.trans (below_le HBZw.out.size hv))) _ _ (by rw [wd_size]; omega) hsh.1 _ hkwf
                have HMb : Hid (∀ v, Below Z.heap.size Z v → Calls Tryz.prog 16 #[.pointer (some ⟨b, 0, none⟩), .string (wd (wn e)), .string t.1, .int .i64 k] v fun er w' => er = .returned (.tuple #[.int .i64 (markOf M.grp (mkey (wd (wn e)) t.1 k)), .bool (Maps.has M.grp (mkey (wd (wn e)) t.1 k))]) ∧ v = w') := fun v hv => run_marked (HRb.out v (HBZw.out.trans (below_le HBZw.out.size hv))) _ _ (by rw [wd_size]; omega) hsh.1 _ hkwf
                have FZ : Hid (∀ v, Below Z.heap.size Z v → Below Z.heap.size Z v ∧ v.cell? ⟨G, 0, none⟩ = some (.string t.1)) := fun v hv => ⟨hv, (HKx.out.ext (HBZ.out.trans (below_le HBZ.out.size hv))).cell 0⟩
                have F0 : Hid (Below Z.heap.size Z wr.drew) := hBj.out.trans (below_le hBj.out.size (below_drew1 (Below.refl _ _)))
                clear hkwf hBj2
                go_upto_region 19 with fail
                go_region_held3 (fun v => Below Z.heap.size Z v ∧ v.cell? ⟨G, 0, none⟩ = some (.string t.1)) (first | exact FZ.out _ F0.out | exact FZ.out _ HW1.out) (first | (go_at_call 30; with_reducible refine (HWd.out _ F0.out).mono ?_; rintro er y1 ⟨rfl, hy1⟩; have HW1 := Lib.hid hy1; clear hy1) | (go_at_call 16; with_reducible refine (HMa.out _ HW1.out).mono ?_; rintro er z1 ⟨rfl, rfl⟩) | fail)
                all_goals
                  have F2 : Hid (Below Z.heap.size Z y1.drew) := HW1.out.trans (below_le HW1.out.size (below_drew1 (Below.refl _ _)))
                  go_upto_region 20 with fail
                  go_region_held3 (fun v => Below Z.heap.size Z v ∧ v.cell? ⟨G, 0, none⟩ = some (.string t.1)) (first | exact FZ.out _ F2.out | exact FZ.out _ HW2.out) (first | (go_at_call 30; with_reducible refine (HWd.out _ F2.out).mono ?_; rintro er y2 ⟨rfl, hy2⟩; have HW2 := Lib.hid hy2; clear hy2) | (go_at_call 16; with_reducible refine (HMb.out _ HW2.out).mono ?_; rintro er z2 ⟨rfl, rfl⟩) | fail)
                  all_goals
                    go_wp2_with fail
                    exact ⟨⟨e + 1, by omega, by go_num, HW2⟩, by simp [intOf]; omega⟩
              · have hi5 : ¬ (e : Int) < 3 := by omega
                have HBk2 : Hid (Below X.heap.size X wr) := HBZ.out.trans (below_le HBZ.out.size hBj.out)
                go_wp2_with fail
                exact ⟨⟨k + 1, by omega, by go_num, HBk2⟩, by simp [intOf]; omega⟩
        · have hi4 : ¬ (k : Int) < t.2.length := by omega
          have HBy : Hid (Below w4.heap.size w4 wr) := HBx.out.trans (below_le HBx.out.size hBk.out)
          go_wp2_with fail
          exact ⟨⟨q + 1, by omega, by go_num, HBy⟩, by simp [intOf]; omega⟩
    · have hi3 : ¬ (q : Int) < M.top.length := by omega
      go_wp2_with fail
      go_ret
      exact ⟨rfl, HB4.out.trans (below_le HB4.out.size hBel.out)⟩
end Go.Proofs.YtjodiieeocaipaaGreatDoor

/-
  Two States, and three, side by side while deeds are done to them.
-/
namespace Go.Proofs.YtjodiieeocaipaaGreatDoor
open Go.RowKit Go.Maps

/-- the State that deeds make of a State -/
noncomputable def runM (l : Nat → Dd) (st : Int) (M : StM) : Nat → StM
  | 0 => M
  | j + 1 => (applyM (runM l st M j) (entOf (l j)) (st + j) 0).1
theorem runM_ok {l : Nat → Dd} {st : Int} {M : StM} (h : TopsOk M) : ∀ j, TopsOk (runM l st M j)
  | 0 => h
  | j + 1 => (runM_ok h j).apply _ _ _
theorem kindAny {v : Value} {k : Int} (h : ErrV2 v k) (w : World) (hg : ErrLaid w) : Calls Tryz.prog 13 #[v] w fun e w' => e = .returned (.int .i64 k) ∧ Below w.heap.size w w' := by
  by_cases hk : k = 0
  · subst hk
    obtain rfl := nil_of h
    exact kind_nil w
  · exact kindV h hk w hg
def neDn (x y : Value) : Sem Value := binOp .neq 25 x y
theorem neDn_eq (x y : Value) : binOp .neq 25 x y = neDn x y := rfl
def gnDn (a b : Operand) (x y : Value) : Sem Unit := eqGuard .neq 25 a b x y
theorem gnDn_eq (a b : Operand) (x y : Value) : eqGuard .neq 25 a b x y = gnDn a b x y := rfl
theorem gn_done (x y : Operand) (xs ys : Array Value) (w : World) : (gnDn x y (.agg xs) (.agg ys)).run Tryz.prog w = .ok () w := run_eqGuard_agg w .neq _ _ _ _ _ (by kernel_rfl)
theorem fields_dn : Tryz.prog.underlying 25 = some (.struct (Tryz.prog.fieldsOf 25)) := by kernel_rfl
theorem ne_done (a b : Int) (c : Bool) (w : World) : (neDn (.agg #[.int .i64 a, .int .i64 b, .bool c]) (.agg #[.int .i64 a, .int .i64 b, .bool c])).run Tryz.prog w = .ok (.bool false) w := by
  unfold neDn
  rw [run_neq_struct, run_equalIn_struct w 9999 _ _ _ fields_dn (by kernel_rfl)]
  simp [go_sem, Program.fieldsOf, Tryz.underlying25]

/-- two States apart; the blocks of K are none of theirs -/
def Tw (w0 w : World) (s Ns : Nat) (Ms : StM) (t Nt : Nat) (Mt : StM) : Prop :=
  ∃ Os Ot, SO w0 w s Ns Ms Os ∧ SO w0 w t Nt Mt Ot ∧ (∀ i, Os i → Ot i → False) ∧ Below w0.heap.size w0 w
theorem Tw.below {w0 w : World} {s Ns t Nt : Nat} {Ms Mt : StM} (h : Tw w0 w s Ns Ms t Nt Mt) : Below w0.heap.size w0 w := by
  obtain ⟨_, _, _, _, _, h⟩ := h
  exact h
theorem Tw.swap {w0 w : World} {s Ns t Nt : Nat} {Ms Mt : StM} (h : Tw w0 w s Ns Ms t Nt Mt) : Tw w0 w t Nt Mt s Ns Ms := by
  obtain ⟨Os, Ot, h1, h2, h3, h4⟩ := h
  exact ⟨Ot, Os, h2, h1, fun i a b => h3 i b a, h4⟩
theorem Tw.ext {w0 w w' : World} {s Ns t Nt : Nat} {Ms Mt : StM} (h : Tw w0 w s Ns Ms t Nt Mt) (hb : Below w.heap.size w w') : Tw w0 w' s Ns Ms t Nt Mt := by
  obtain ⟨Os, Ot, h1, h2, h3, h4⟩ := h
  exact ⟨Os, Ot, h1.ext hb, h2.ext hb, h3, h4.trans (below_le h4.size hb)⟩
theorem SO.at {w0 w : World} {s N : Nat} {M : StM} {O : Nat → Prop} (h : SO w0 w s N M O) {i : Nat} (hi : O i) : w0.heap.size ≤ i := by
  obtain ⟨o, S, _, _, _, h⟩ := h
  exact h i hi
theorem Tw.step {w0 w : World} {s Ns t Nt : Nat} {Ms Mt Ms' : StM} (h : Tw w0 w s Ns Ms t Nt Mt) (hN : Ns ≤ 900000) (e : Ent) (A : Option Addr) (n c : Nat) (hrd : RdT w A n c e.bat.vals) (stripe at_ : Int) {D : DoneM} {k : Int} (hM : applyM Ms e stripe at_ = (Ms', D, k)) :
    Calls Tryz.prog 11 #[.pointer (some ⟨s, 0, none⟩), .agg #[.int .i64 e.kind, .string e.topic, .string e.group, .int .i64 e.part, .int .i64 e.parts, .int .i64 e.first, .int .i64 e.off, .int .i64 e.bat.time, .int .i64 e.bat.prod, .int .i64 e.bat.seq, .slice A n c], .int .i64 stripe, .int .i64 at_] w
      fun er w' => ∃ v, er = .returned (.tuple #[.agg #[.int .i64 D.base, .int .i64 D.cnt, .bool D.again], v]) ∧ ErrV2 v k ∧ Tw w0 w' s (Ns + 1) Ms' t Nt Mt := by
  obtain ⟨Os, Ot, h1, h2, h3, h4⟩ := h
  refine (so_step h1 h4.size hN e A n c hrd stripe at_ hM).mono ?_
  rintro er w' ⟨v, O', rfl, hv, a1, a2, a3⟩
  refine ⟨v, rfl, hv, O', Ot, a1, h2.turned a3 (fun i hi hs => h3 i hs hi), fun i hi ht => ?_, a3.below h4 h4.size (fun i hi => h1.at hi)⟩
  exact h3 i ((a2 i (h2.lim ht)).1 hi) ht
/-- three States apart; the blocks of K are none of theirs -/
def Th (w0 w : World) (K : Nat → Prop) (s Ns : Nat) (Ms : StM) (t Nt : Nat) (Mt : StM) (u Nu : Nat) (Mu : StM) : Prop :=
  ∃ Os Ot Ou, SO w0 w s Ns Ms Os ∧ SO w0 w t Nt Mt Ot ∧ SO w0 w u Nu Mu Ou ∧ ((∀ i, Os i → Ot i → False) ∧ (∀ i, Os i → Ou i → False) ∧ ∀ i, Ot i → Ou i → False) ∧
    (∀ i, K i → ¬ Os i ∧ ¬ Ot i ∧ ¬ Ou i ∧ i < w.heap.size) ∧ Below w0.heap.size w0 w
theorem Th.below {w0 w : World} {K : Nat → Prop} {s Ns t Nt u Nu : Nat} {Ms Mt Mu : StM} (h : Th w0 w K s Ns Ms t Nt Mt u Nu Mu) : Below w0.heap.size w0 w := by
  obtain ⟨_, _, _, _, _, _, _, _, h⟩ := h
  exact h
theorem Th.rot {w0 w : World} {K : Nat → Prop} {s Ns t Nt u Nu : Nat} {Ms Mt Mu : StM} (h : Th w0 w K s Ns Ms t Nt Mt u Nu Mu) : Th w0 w K t Nt Mt u Nu Mu s Ns Ms := by
  obtain ⟨Os, Ot, Ou, h1, h2, h3, ⟨d1, d2, d3⟩, hK, hb⟩ := h
  exact ⟨Ot, Ou, Os, h2, h3, h1, ⟨d3, fun i a b => d1 i b a, fun i a b => d2 i b a⟩, fun i hi => ⟨(hK i hi).2.1, (hK i hi).2.2.1, (hK i hi).1, (hK i hi).2.2.2⟩, hb⟩
theorem Th.ext {w0 w w' : World} {K : Nat → Prop} {s Ns t Nt u Nu : Nat} {Ms Mt Mu : StM} (h : Th w0 w K s Ns Ms t Nt Mt u Nu Mu) (hb : Below w.heap.size w w') : Th w0 w' (fun i => K i ∨ (w.heap.size ≤ i ∧ i < w'.heap.size)) s Ns Ms t Nt Mt u Nu Mu := by
  obtain ⟨Os, Ot, Ou, h1, h2, h3, h4, hK, h5⟩ := h
  refine ⟨Os, Ot, Ou, h1.ext hb, h2.ext hb, h3.ext hb, h4, fun i hi => ?_, h5.trans (below_le h5.size hb)⟩
  rcases hi with hi | hi
  · obtain ⟨a, b, c, d⟩ := hK i hi
    exact ⟨a, b, c, Nat.lt_of_lt_of_le d hb.size⟩
  · exact ⟨fun x => Nat.lt_irrefl _ (Nat.lt_of_lt_of_le (h1.lim x) hi.1), fun x => Nat.lt_irrefl _ (Nat.lt_of_lt_of_le (h2.lim x) hi.1), fun x => Nat.lt_irrefl _ (Nat.lt_of_lt_of_le (h3.lim x) hi.1), hi.2⟩
theorem Th.less {w0 w : World} {K K' : Nat → Prop} {s Ns t Nt u Nu : Nat} {Ms Mt Mu : StM} (h : Th w0 w K s Ns Ms t Nt Mt u Nu Mu) (hk : ∀ i, K' i → K i) : Th w0 w K' s Ns Ms t Nt Mt u Nu Mu := by
  obtain ⟨Os, Ot, Ou, h1, h2, h3, h4, hK, h5⟩ := h
  exact ⟨Os, Ot, Ou, h1, h2, h3, h4, fun i hi => hK i (hk i hi), h5⟩
theorem Th.step {w0 w : World} {K : Nat → Prop} {s Ns t Nt u Nu : Nat} {Ms Mt Mu Ms' : StM} (h : Th w0 w K s Ns Ms t Nt Mt u Nu Mu) (hN : Ns ≤ 900000) (e : Ent) (A : Option Addr) (n c : Nat) (hrd : RdT w A n c e.bat.vals) (stripe at_ : Int) {D : DoneM} {k : Int} (hM : applyM Ms e stripe at_ = (Ms', D, k)) :
    Calls Tryz.prog 11 #[.pointer (some ⟨s, 0, none⟩), .agg #[.int .i64 e.kind, .string e.topic, .string e.group, .int .i64 e.part, .int .i64 e.parts, .int .i64 e.first, .int .i64 e.off, .int .i64 e.bat.time, .int .i64 e.bat.prod, .int .i64 e.bat.seq, .slice A n c], .int .i64 stripe, .int .i64 at_] w
      fun er w' => ∃ v, er = .returned (.tuple #[.agg #[.int .i64 D.base, .int .i64 D.cnt, .bool D.again], v]) ∧ ErrV2 v k ∧ Th w0 w' K s (Ns + 1) Ms' t Nt Mt u Nu Mu ∧ Turned (fun i => w0.heap.size ≤ i ∧ ¬ K i) w w' := by
  obtain ⟨Os, Ot, Ou, h1, h2, h3, ⟨d1, d2, d3⟩, hK, h4⟩ := h
  refine (so_step h1 h4.size hN e A n c hrd stripe at_ hM).mono ?_
  rintro er w' ⟨v, O', rfl, hv, a1, a2, a3⟩
  refine ⟨v, rfl, hv, ⟨O', Ot, Ou, a1, h2.turned a3 (fun i hi hs => d1 i hs hi), h3.turned a3 (fun i hi hs => d2 i hs hi), ⟨fun i hi ht => ?_, fun i hi ht => ?_, d3⟩, fun i hi => ?_, a3.below h4 h4.size (fun i hi => h1.at hi)⟩, a3.more (fun i _ ho => ⟨h1.at ho, fun hk => (hK i hk).1 ho⟩)⟩
  · exact d1 i ((a2 i (h2.lim ht)).1 hi) ht
  · exact d2 i ((a2 i (h3.lim ht)).1 hi) ht
  · obtain ⟨a, b, c, d⟩ := hK i hi
    exact ⟨fun x => a ((a2 i d).1 x), b, c, Nat.lt_of_lt_of_le d a3.size⟩
/-- two that are the same look alike -/
theorem Th.twins {w0 w : World} {K : Nat → Prop} {s Ns t Nt u Nu : Nat} {M Mu : StM} (h : Th w0 w K s Ns M t Nt M u Nu Mu) (hN : Ns ≤ 900000) (hN' : Nt ≤ 900000) :
    Calls Tryz.prog 23 #[.pointer (some ⟨s, 0, none⟩), .pointer (some ⟨t, 0, none⟩)] w fun e w' => e = .returned (.bool true) ∧ Below w.heap.size w w' := by
  obtain ⟨Os, Ot, Ou, h1, h2, h3, _, _, h4⟩ := h
  exact twins_any h1 h2 h4 hN hN'
theorem Th.twins2 {w0 w : World} {K : Nat → Prop} {s Ns t Nt u Nu : Nat} {M Mt : StM} (h : Th w0 w K s Ns M t Nt Mt u Nu M) (hN : Ns ≤ 900000) (hN' : Nu ≤ 900000) :
    Calls Tryz.prog 23 #[.pointer (some ⟨s, 0, none⟩), .pointer (some ⟨u, 0, none⟩)] w fun e w' => e = .returned (.bool true) ∧ Below w.heap.size w w' := by
  obtain ⟨Os, Ot, Ou, h1, h2, h3, _, _, h4⟩ := h
  exact twins_any h1 h3 h4 hN hN'
theorem Tw.twins {w0 w : World} {s Ns t Nt : Nat} {M : StM} (h : Tw w0 w s Ns M t Nt M) (hN : Ns ≤ 900000) (hN' : Nt ≤ 900000) :
    Calls Tryz.prog 23 #[.pointer (some ⟨s, 0, none⟩), .pointer (some ⟨t, 0, none⟩)] w fun e w' => e = .returned (.bool true) ∧ Below w.heap.size w w' := by
  obtain ⟨Os, Ot, h1, h2, _, h4⟩ := h
  exact twins_any h1 h2 h4 hN hN'
/-- a twin of the first -/
theorem Tw.twin {w0 w : World} {s Ns t Nt : Nat} {Ms Mt : StM} (h : Tw w0 w s Ns Ms t Nt Mt) (hN : Ns ≤ 900000) (hne : TopsOk Ms) :
    Calls Tryz.prog 22 #[.pointer (some ⟨s, 0, none⟩)] w fun e w' => ∃ u, e = .returned (.pointer (some ⟨u, 0, none⟩)) ∧ Th w0 w' (fun _ => False) s Ns Ms t Nt Mt u Ns Ms := by
  obtain ⟨Os, Ot, h1, h2, h3, h4⟩ := h
  refine (so_twin h1 h4.size hN hne).mono ?_
  rintro er w' ⟨u, O', rfl, a1, a2, a3⟩
  exact ⟨u, rfl, Os, Ot, O', h1.ext a3, h2.ext a3, a1, ⟨h3, fun i hi ho => Nat.lt_irrefl _ (Nat.lt_of_lt_of_le (h1.lim hi) (a2 i ho)), fun i hi ho => Nat.lt_irrefl _ (Nat.lt_of_lt_of_le (h2.lim hi) (a2 i ho))⟩, fun _ hi => hi.elim, h4.trans (below_le h4.size a3)⟩
theorem SO.twin {w0 w : World} {s N : Nat} {M : StM} {O : Nat → Prop} (h : SO w0 w s N M O) (hb : Below w0.heap.size w0 w) (hN : N ≤ 900000) (hne : TopsOk M) :
    Calls Tryz.prog 22 #[.pointer (some ⟨s, 0, none⟩)] w fun e w' => ∃ u, e = .returned (.pointer (some ⟨u, 0, none⟩)) ∧ Tw w0 w' s N M u N M := by
  refine (so_twin h hb.size hN hne).mono ?_
  rintro er w' ⟨u, O', rfl, a1, a2, a3⟩
  exact ⟨u, rfl, O, O', h.ext a3, a1, fun i hi ho => Nat.lt_irrefl _ (Nat.lt_of_lt_of_le (h.lim hi) (a2 i ho)), hb.trans (below_le hb.size a3)⟩
theorem tw_new (w0 w : World) (hb : Below w0.heap.size w0 w) {s N : Nat} {M : StM} {O : Nat → Prop} (h : SO w0 w s N M O) : Calls Tryz.prog 10 #[] w fun e w' => ∃ t, e = .returned (.pointer (some ⟨t, 0, none⟩)) ∧ Tw w0 w' s N M t 0 newSt :=
  (so_new w0 w hb.size).mono fun _ _ ⟨t, O', a0, a1, a2, a3⟩ => ⟨t, a0, O, O', h.ext a3, a1, fun i hi ho => Nat.lt_irrefl _ (Nat.lt_of_lt_of_le (h.lim hi) (a2 i ho)), hb.trans (below_le hb.size a3)⟩
end Go.Proofs.YtjodiieeocaipaaGreatDoor
