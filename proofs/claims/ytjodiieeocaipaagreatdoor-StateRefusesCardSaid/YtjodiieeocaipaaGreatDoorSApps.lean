import Derived.Test.YtjodiieeocaipaaGreatDoorSMakes
import Derived.StillTailTactics
import Derived.Test.YtjodiieeocaipaaGreatDoorERightW
import Derived.Test.YtjodiieeocaipaaGreatDoorGrpBad
/-
  state.apply: what a right entry's fields are; what came, laid under the whole call; create and delete.
-/
namespace Go.Proofs.YtjodiieeocaipaaGreatDoor
open Go.RowKit Go.Maps
attribute [local go_sem ↓] ldB_eq stB_eq ldE_eq stE_eq ldD_eq stD_eq

theorem right_bat2 {e : Ent} (h : rightE e = true) (hk : e.kind = 3) : rightB e.bat = true := by
  obtain ⟨_, _, h3, _, h5⟩ := right_facts h
  have hv : valsE e = [sV e.topic, nV e.part, sV (batS e.bat)] := by unfold valsE; rw [hk]; rfl
  rw [hk, hv] at h3 h5
  cases hg : getB (batS e.bat).data.toList with
  | error c =>
    have h3' : (match getB (batS e.bat).data.toList with | .ok _ => none | .error c => some c) = none := h3
    rw [hg] at h3'
    cases h3'
  | ok b =>
    have h5' : (⟨3, e.topic, nul, e.part, 0, 0, 0, batOf (getB (batS e.bat).data.toList)⟩ : Ent) = e := h5
    rw [hg] at h5'
    have : e.bat = b := by rw [← h5']; rfl
    rw [this]
    exact (getB_inv hg).1
theorem fits_nu {sz lo hi x : Int} (h : fitsV (nF sz lo hi) (nV x) = true) : lo ≤ x ∧ x ≤ hi := by
  have h' : (decide (lo ≤ x) && decide (x ≤ hi) && true && true) = true := h
  simpa using h'
theorem right_topic {e : Ent} (h : rightE e = true) : nameOk e.topic = true := by
  have := (right_facts h).2.2.2.1
  unfold namesE at this
  rw [Bool.and_eq_true] at this
  exact this.1
theorem right_short {e : Ent} (h : rightE e = true) : e.topic.size ≤ 1000 := Nat.le_trans (nameOk_le (right_topic h)) (by omega)
theorem right1 {e : Ent} (h : rightE e = true) (hk : e.kind = 1) : (0 ≤ e.parts ∧ e.parts ≤ 1000) ∧ 0 ≤ e.first ∧ e.first ≤ maxI := by
  have h1 := (right_facts h).1
  have hv : valsE e = [sV e.topic, nV e.parts, nV e.first] := by unfold valsE; rw [hk]; rfl
  rw [hk, hv] at h1
  have h2 : (fitsV nameF (sV e.topic) && (fitsV (nF 1 1 4) (nV e.parts) && (fitsV offF (nV e.first) && true))) = true := h1
  simp only [Bool.and_eq_true, and_true] at h2
  have a1 := fits_nu h2.2.1
  have a2 := fits_nu (show fitsV (nF 8 0 9223372036854775807) (nV e.first) = true from h2.2.2)
  exact ⟨by omega, a2⟩
theorem right4 {e : Ent} (h : rightE e = true) (hk : e.kind = 4) : nameOk e.group = true ∧ (0 ≤ e.part ∧ e.part < 4) ∧ 0 ≤ e.off ∧ e.off ≤ maxI := by
  have h1 := (right_facts h).1
  have h4 := (right_facts h).2.2.2.1
  have hv : valsE e = [sV e.group, sV e.topic, nV e.part, nV e.off] := by unfold valsE; rw [hk]; rfl
  rw [hk, hv] at h1
  have h2 : (fitsV nameF (sV e.group) && (fitsV nameF (sV e.topic) && (fitsV partF (nV e.part) && (fitsV offF (nV e.off) && true)))) = true := h1
  simp only [Bool.and_eq_true, and_true] at h2
  have a1 := fits_nu (show fitsV (nF 1 0 3) (nV e.part) = true from h2.2.2.1)
  have a2 := fits_nu (show fitsV (nF 8 0 9223372036854775807) (nV e.off) = true from h2.2.2.2)
  unfold namesE at h4
  simp [hk] at h4
  exact ⟨h4.2, by omega, a2⟩
theorem right5 {e : Ent} (h : rightE e = true) (hk : e.kind = 5) : 0 ≤ e.off ∧ e.off ≤ maxI := by
  have h1 := (right_facts h).1
  have hv : valsE e = [sV e.topic, nV e.part, nV e.off] := by unfold valsE; rw [hk]; rfl
  rw [hk, hv] at h1
  have h2 : (fitsV nameF (sV e.topic) && (fitsV partF (nV e.part) && (fitsV offF (nV e.off) && true))) = true := h1
  simp only [Bool.and_eq_true, and_true] at h2
  exact fits_nu (show fitsV (nF 8 0 9223372036854775807) (nV e.off) = true from h2.2.2)

/-- a block of the call's own turned -/
theorem Left.row {w W w1 : World} {o : Nat → Option Who} {s N : Nat} {M : StM} (h : Left W w1 o s N M) (hb : Below w.heap.size w W) {g : Nat} (hg : w.heap.size ≤ g) (hgW : g < W.heap.size) (ho : ∀ i, o i ≠ none → i < w.heap.size) (r : Array Value) : Left w (w1.setRow g r) o s N M := by
  obtain ⟨⟨o', S', h1, h2, h3⟩, h4⟩ := h
  refine ⟨⟨o', S', h1.turned (Turned.of_grown (P := fun i => i = g) (grown_row w1 g r) (fun j e => (Option.some.inj e).symm)) (fun i _ hi e => ?_), h2, fun i hi => h3 i (Nat.lt_of_lt_of_le hi hb.size)⟩, ?_⟩
  · subst e
    rw [h3 i hgW] at hi
    have := ho i hi
    omega
  · exact ((Turned.of_below hb).trans h4 (fun _ _ h => h)).then_grown (grown_row w1 g r) (fun j e => .inr (by rw [← Option.some.inj e]; exact hg))
/-- what apply hands back -/
def ApR (o : Nat → Option Who) (s N : Nat) (M : StM) (e : Ent) (stripe at_ : Int) (w w' : World) (er : Ending) : Prop :=
  ∃ v, er = .returned (.tuple #[.agg (doneA (applyR M e stripe at_).2.1), v]) ∧ ErrV v (applyR M e stripe at_).2.2 ∧ Left w w' o s (N + 1) (applyR M e stripe at_).1
theorem app1 {M : StM} {e : Ent} (hk : e.kind = 1) (stripe at_ : Int) : applyR M e stripe at_ = ((creM M e).1, noDone, (creM M e).2) := by
  unfold applyR creM
  rw [if_pos hk]
  split
  · rfl
  · split <;> rfl
theorem app2 {M : StM} {e : Ent} (hk : e.kind = 2) (stripe at_ : Int) : applyR M e stripe at_ = ((remM M e.topic).1, noDone, (remM M e.topic).2) := by
  unfold applyR remM
  rw [if_neg (by omega), if_pos hk]
  split <;> rfl
/-- the world when an entry is boxed and the result's place laid -/
def boxW (w : World) (e : Ent) (A : Option Addr) (n c : Nat) : World := (w.alloc (.cells #[.int .i64 e.kind, .string e.topic, .string e.group, .int .i64 e.part, .int .i64 e.parts, .int .i64 e.first, .int .i64 e.off, .int .i64 e.bat.time, .int .i64 e.bat.prod, .int .i64 e.bat.seq, .slice A n c] 34)).alloc (.cells #[.int .i64 0, .int .i64 0, .bool false] 25)
structure BoxW (w W : World) (e : Ent) (A : Option Addr) (n c : Nat) : Prop where
  below : Below w.heap.size w W
  ent : Bk W w.heap.size 34 #[.int .i64 e.kind, .string e.topic, .string e.group, .int .i64 e.part, .int .i64 e.parts, .int .i64 e.first, .int .i64 e.off, .int .i64 e.bat.time, .int .i64 e.bat.prod, .int .i64 e.bat.seq, .slice A n c]
  done : Bk W (w.heap.size + 1) 25 #[.int .i64 0, .int .i64 0, .bool false]
theorem box_ok (w : World) (e : Ent) (A : Option Addr) (n c : Nat) : BoxW w (boxW w e A n c) e A n c := by
  have h1 := below_new w (.cells #[.int .i64 e.kind, .string e.topic, .string e.group, .int .i64 e.part, .int .i64 e.parts, .int .i64 e.first, .int .i64 e.off, .int .i64 e.bat.time, .int .i64 e.bat.prod, .int .i64 e.bat.seq, .slice A n c] 34)
  refine ⟨h1.trans (below_le h1.size (below_new _ _)), (Bk.made w _ _).alloc _, ?_⟩
  exact Bk.made_at _ (w.heap.size + 1) _ _ (by simp)
theorem BoxW.lt {w W : World} {e : Ent} {A : Option Addr} {n c : Nat} (h : BoxW w W e A n c) : w.heap.size + 1 < W.heap.size := h.done.lt
set_option maxRecDepth 100000 in
set_option maxHeartbeats 2000000 in
theorem apply1_any {o : Nat → Option Who} {s N : Nat} {S : StW} {w : World} (h : StAt w o s N S) (e : Ent) (A : Option Addr) (n c : Nat) (hr : rightE e = true) (hk : e.kind = 1) (stripe at_ : Int) :
    Calls Tryz.prog 27 #[.pointer (some ⟨s, 0, none⟩), .agg #[.int .i64 e.kind, .string e.topic, .string e.group, .int .i64 e.part, .int .i64 e.parts, .int .i64 e.first, .int .i64 e.off, .int .i64 e.bat.time, .int .i64 e.bat.prod, .int .i64 e.bat.seq, .slice A n c], .int .i64 stripe, .int .i64 at_] w
      fun er w' => ApR o s N S.m e stripe at_ w w' er := by
  have hbw := box_ok w e A n c
  have HC := Lib.hid (create_any (h.ext hbw.below) e A n c (right_short hr) (right1 hr hk).1 (right1 hr hk).2)
  have HLim := Lib.hid h.lim
  unfold boxW at hbw HC
  have q1 : (e.kind == 1) = true := by rw [hk]; rfl
  have HK := Lib.hid hk
  have HBW := Lib.hid hbw
  clear h hbw hk hr
  go_enter Tryz.func27, Tryz.ntmps27
  go_upto_region 1 with fail
  generalize ((w.alloc (.cells #[.int .i64 e.kind, .string e.topic, .string e.group, .int .i64 e.part, .int .i64 e.parts, .int .i64 e.first, .int .i64 e.off, .int .i64 e.bat.time, .int .i64 e.bat.prod, .int .i64 e.bat.seq, .slice A n c] 34)).alloc (.cells #[.int .i64 0, .int .i64 0, .bool false] 25)) = W at HBW HC ⊢
  have hld := ldE_bk HBW.out.ent
  have c0 : W.cell? ⟨w.heap.size, 0, none⟩ = some (.int .i64 e.kind) := HBW.out.ent.cell 0
  go_wp2_with fail
  with_reducible refine HC.out.mono ?_
  rintro er w1 ⟨v, rfl, hv, hl⟩
  have hkd := HBW.out.done.turned hl.turned (fun hx => by have := HLim.out _ hx; omega)
  have hst := stD_row hkd rfl 0 0 false
  have HKd := Lib.hid hkd
  have HV := Lib.hid hv
  have HL := Lib.hid hl
  clear hkd hv hl hld c0 HC
  go_wp2_with fail
  refine bodyPost_ret (res_done (p := 8) (u := 9) rfl _ _ (w.heap.size + 1) 0 0 false rfl (Bk.row HKd.out _)) rfl ?_
  unfold ApR
  rw [app1 HK.out]
  exact ⟨v, rfl, HV.out, HL.out.row HBW.out.below (Nat.le_succ _) HBW.out.lt HLim.out _⟩
set_option maxRecDepth 100000 in
set_option maxHeartbeats 2000000 in
theorem apply2_any {o : Nat → Option Who} {s N : Nat} {S : StW} {w : World} (h : StAt w o s N S) (e : Ent) (A : Option Addr) (n c : Nat) (hr : rightE e = true) (hk : e.kind = 2) (stripe at_ : Int) :
    Calls Tryz.prog 27 #[.pointer (some ⟨s, 0, none⟩), .agg #[.int .i64 e.kind, .string e.topic, .string e.group, .int .i64 e.part, .int .i64 e.parts, .int .i64 e.first, .int .i64 e.off, .int .i64 e.bat.time, .int .i64 e.bat.prod, .int .i64 e.bat.seq, .slice A n c], .int .i64 stripe, .int .i64 at_] w
      fun er w' => ApR o s N S.m e stripe at_ w w' er := by
  have hbw := box_ok w e A n c
  have HC := Lib.hid (remove_any (h.ext hbw.below) e.topic (right_short hr))
  have HLim := Lib.hid h.lim
  unfold boxW at hbw HC
  have q1 : (e.kind == 1) = false := by rw [hk]; rfl
  have q2 : (e.kind == 2) = true := by rw [hk]; rfl
  have HK := Lib.hid hk
  have HBW := Lib.hid hbw
  clear h hbw hk hr
  go_enter Tryz.func27, Tryz.ntmps27
  go_upto_region 1 with fail
  generalize ((w.alloc (.cells #[.int .i64 e.kind, .string e.topic, .string e.group, .int .i64 e.part, .int .i64 e.parts, .int .i64 e.first, .int .i64 e.off, .int .i64 e.bat.time, .int .i64 e.bat.prod, .int .i64 e.bat.seq, .slice A n c] 34)).alloc (.cells #[.int .i64 0, .int .i64 0, .bool false] 25)) = W at HBW HC ⊢
  have c1 : W.cell? ⟨w.heap.size, 1, none⟩ = some (.string e.topic) := HBW.out.ent.cell 1
  have c0 : W.cell? ⟨w.heap.size, 0, none⟩ = some (.int .i64 e.kind) := HBW.out.ent.cell 0
  go_wp2_with fail
  with_reducible refine HC.out.mono ?_
  rintro er w1 ⟨v, rfl, hv, hl⟩
  have hkd := HBW.out.done.turned hl.turned (fun hx => by have := HLim.out _ hx; omega)
  have hst := stD_row hkd rfl 0 0 false
  have HKd := Lib.hid hkd
  have HV := Lib.hid hv
  have HL := Lib.hid hl
  clear hkd hv hl c1 c0 HC
  go_wp2_with fail
  refine bodyPost_ret (res_done (p := 8) (u := 9) rfl _ _ (w.heap.size + 1) 0 0 false rfl (Bk.row HKd.out _)) rfl ?_
  unfold ApR
  rw [app2 HK.out]
  exact ⟨v, rfl, HV.out, HL.out.row HBW.out.below (Nat.le_succ _) HBW.out.lt HLim.out _⟩
end Go.Proofs.YtjodiieeocaipaaGreatDoor

/-
  state.apply: what is laid under a partition.
-/
namespace Go.Proofs.YtjodiieeocaipaaGreatDoor
open Go.RowKit Go.Maps
attribute [local go_sem ↓] ldB_eq stB_eq ldE_eq stE_eq ldD_eq stD_eq

theorem app_none {M : StM} {e : Ent} (h1 : e.kind ≠ 1) (h2 : e.kind ≠ 2) (hp : partT M.top e.topic e.part = none) (stripe at_ : Int) : applyR M e stripe at_ = (M, noDone, 10) := by
  unfold applyR
  rw [if_neg h1, if_neg h2, hp]
theorem app3 {M : StM} {e : Ent} (hk : e.kind = 3) {P : PartM} (hp : partT M.top e.topic e.part = some P) (stripe at_ : Int) : applyR M e stripe at_ = (⟨setT M.top e.topic e.part (prodM P e.bat stripe at_).1, M.grp⟩, (prodM P e.bat stripe at_).2.1, (prodM P e.bat stripe at_).2.2) := by
  unfold applyR
  rw [if_neg (by omega), if_neg (by omega), hp]
  show (if e.kind = 4 then _ else _) = _
  rw [if_neg (by omega), if_neg (by omega)]
theorem app4 {M : StM} {e : Ent} (hk : e.kind = 4) {P : PartM} (hp : partT M.top e.topic e.part = some P) (stripe at_ : Int) : applyR M e stripe at_ = (if setBad M.grp e.group e.topic e.part e.off = 0 then (⟨M.top, M.grp.put (mkey e.group e.topic e.part) (.lit (.int .i64 e.off))⟩, noDone, 0) else (M, noDone, setBad M.grp e.group e.topic e.part e.off)) := by
  unfold applyR
  rw [if_neg (by omega), if_neg (by omega), hp]
  show (if e.kind = 4 then _ else _) = _
  rw [if_pos hk]
theorem app5 {M : StM} {e : Ent} (hk : e.kind = 5) {P : PartM} (hp : partT M.top e.topic e.part = some P) (stripe at_ : Int) : applyR M e stripe at_ = (if trimBad P.log e.off = 0 then (⟨setT M.top e.topic e.part ⟨trimLog P.log e.off, P.ded⟩, M.grp⟩, noDone, 0) else (M, noDone, trimBad P.log e.off)) := by
  unfold applyR
  rw [if_neg (by omega), if_neg (by omega), hp]
  show (if e.kind = 4 then _ else _) = _
  rw [if_neg (by omega), if_pos hk]
theorem StAt.left {o : Nat → Option Who} {s N : Nat} {S : StW} {w w' : World} (h : StAt w o s N S) {t : TopW} {kk : Nat} {p : PartW} (ht : t ∈ S.V) (hp : t.ps[kk]? = some p) (hT : Turned (fun i => o i = some (.part t.name kk)) w w') (P' : PartM)
    (hl : LogAt w' (Wide (fun i => o i = some (.part t.name kk)) w) p.lb P'.log) (hlo : P'.log.Ok (N + 1)) (hd : DedAt w' (Wide (fun i => o i = some (.part t.name kk)) w) p.db (N + 1) P'.ded) (hdo : DedOk P'.ded) :
    Left w w' o s (N + 1) ⟨setT S.m.top t.name kk P', S.grp⟩ := by
  refine ⟨⟨_, _, h.setPart ht hp hT P' hl hlo hd hdo, ?_, fun i hi => ?_⟩, hT.more (fun i _ e => by rw [e]; simp)⟩
  · show (⟨(setW S.V t.name kk ⟨p.lb, p.db, P'⟩).map TopW.m, S.grp⟩ : StM) = _
    rw [set_m]
    rfl
  · unfold ownPart
    rw [if_neg (by omega)]
theorem prod_left {o : Nat → Option Who} {s N : Nat} {S : StW} {w w' : World} (h : StAt w o s N S) {t : TopW} {kk : Nat} {p : PartW} (ht : t ∈ S.V) (hp : t.ps[kk]? = some p) {b : Bat} {stripe at_ : Int} {er : Ending}
    (hP : ProdR (fun i => o i = some (.part t.name kk)) p.lb p.db N p.m.log p.m.ded b stripe at_ w w' er) :
    ∃ (D : DoneM) (v : Value), er = .returned (.tuple #[.agg #[.int .i64 D.base, .int .i64 D.cnt, .bool D.again], v]) ∧ D = (prodM p.m b stripe at_).2.1 ∧ ErrV v (prodM p.m b stripe at_).2.2 ∧ Left w w' o s (N + 1) ⟨setT S.m.top t.name kk (prodM p.m b stripe at_).1, S.grp⟩ := by
  obtain ⟨v, h1, h2, h3, h4, h5, h6, h7⟩ := hP
  exact ⟨_, v, h1, rfl, h2, h.left ht hp h7 _ h3 h4 h5 h6⟩
/-- a log and what was sent, apart -/
theorem part_split {w : World} {P : Nat → Prop} {lb db N : Nat} {L : LogM} {d : DedM} (hl : LogAt w P lb L) (hd : DedAt w P db N d) : ∃ mb, P db ∧ P mb ∧ LogAt w (fun i => (P i ∧ i ≠ db) ∧ i ≠ mb) lb L ∧ DedAt w (fun i => i = db ∨ i = mb) db N d := by
  obtain ⟨mb, p1, p2, hdf, hdl, hml, hdx, hmx⟩ := hd.fine
  exact ⟨mb, p1, p2, (hl.but (x := db) (fun t cs ht => hdx t cs (by rcases ht with rfl | rfl | rfl | rfl <;> decide))).but (x := mb) (fun t cs _ => hmx t cs), hdf⟩
/-- a log alone turned -/
theorem log_left {o : Nat → Option Who} {s N : Nat} {S : StW} {w w' : World} (h : StAt w o s N S) {t : TopW} {kk : Nat} {p : PartW} (ht : t ∈ S.V) (hp : t.ps[kk]? = some p) {mb : Nat} {L' : LogM} (p1 : o p.db = some (.part t.name kk)) (p2 : o mb = some (.part t.name kk)) (hdf : DedAt w (fun i => i = p.db ∨ i = mb) p.db N p.m.ded)
    (hT : Turned (fun i => (o i = some (.part t.name kk) ∧ i ≠ p.db) ∧ i ≠ mb) w w') (hl : LogAt w' (Wide (fun i => (o i = some (.part t.name kk) ∧ i ≠ p.db) ∧ i ≠ mb) w) p.lb L') (hlo : L'.Ok (N + 1)) :
    Left w w' o s (N + 1) ⟨setT S.m.top t.name kk ⟨L', p.m.ded⟩, S.grp⟩ := by
  refine h.left ht hp (hT.more (fun i _ h => h.1.1)) ⟨L', p.m.ded⟩ (hl.more (fun i _ h => h.elim (fun h => .inl h.1.1) .inr)) hlo (DedAt.mono ((hdf.turned hT (fun i _ h h2 => by rcases h with rfl | rfl; exact h2.1.2 rfl; exact h2.2 rfl)).more (fun i _ h => by rcases h with rfl | rfl; exact .inl p1; exact .inl p2)) (Nat.le_succ N)) ((h.tops t ht).ded kk p hp).2
/-- the groups alone turned -/
theorem grp_left {o : Nat → Option Who} {s N : Nat} {S : StW} {w w' : World} (h : StAt w o s N S) {G' : DataW Unit} (hg : Grp w' S.g S.gb G') (hgr : w.grownBy w' (some S.gb)) (hm : Maps.size G' ≤ 32) : Left w w' o s (N + 1) ⟨S.m.top, G'⟩ := by
  have hT : Turned (fun i => i = S.gb) w w' := Turned.of_grown hgr (fun k e => (Option.some.inj e).symm)
  have hx : ∀ {i : Nat} {x : Who}, o i = some x → x ≠ .grp → ¬ i = S.gb := fun e hx e2 => by
    subst e2
    rw [h.own.2.2.2] at e
    exact hx (Option.some.inj e).symm
  refine ⟨⟨o, ⟨S.tb, S.g, S.gb, S.V, G'⟩, ⟨h.bk.turned hT (hx h.own.1 (by simp)), map_turned h.map hT (hx h.own.2.1 (by simp)), hg, fun t ht => ((h.tops t ht).turned hT (fun j _ hj => by
      rcases hj with ⟨k, hj⟩ | hj
      · exact hx hj (by simp)
      · exact hx hj (by simp))).mono (Nat.le_succ N), h.sorted, h.own, fun i hi => Nat.lt_of_lt_of_le (h.lim i hi) hT.size, h.few, hm⟩, rfl, fun _ _ => rfl⟩, hT.more (fun i _ e => by rw [e, h.own.2.2.2]; simp)⟩
end Go.Proofs.YtjodiieeocaipaaGreatDoor

/-
  state.apply: a batch.
-/
namespace Go.Proofs.YtjodiieeocaipaaGreatDoor
open Go.RowKit Go.Maps
attribute [local go_sem ↓] ldB_eq stB_eq ldE_eq stE_eq ldD_eq stD_eq

set_option maxRecDepth 100000 in
set_option maxHeartbeats 2000000 in
theorem apply3_any {o : Nat → Option Who} {s N : Nat} {S : StW} {w : World} (h : StAt w o s N S) (hN : N ≤ 900000) (e : Ent) (A : Option Addr) (n c : Nat) (hrd : RdT w A n c e.bat.vals) (hr : rightE e = true) (hk : e.kind = 3) (stripe at_ : Int) (h0 : 0 ≤ stripe) (h1 : 0 ≤ at_) :
    Calls Tryz.prog 27 #[.pointer (some ⟨s, 0, none⟩), .agg #[.int .i64 e.kind, .string e.topic, .string e.group, .int .i64 e.part, .int .i64 e.parts, .int .i64 e.first, .int .i64 e.off, .int .i64 e.bat.time, .int .i64 e.bat.prod, .int .i64 e.bat.seq, .slice A n c], .int .i64 stripe, .int .i64 at_] w
      fun er w' => ApR o s N S.m e stripe at_ w w' er := by
  have hbw := box_ok w e A n c
  have hs := h.ext hbw.below
  have HP := Lib.hid (part_any hs e.topic (right_short hr) e.part)
  have HLim := Lib.hid h.lim
  have HS := Lib.hid hs
  have HRd := Lib.hid (hrd.ext hbw.below)
  have HRb := Lib.hid (right_bat2 hr hk)
  unfold boxW at hbw HP HS HRd
  have q1 : (e.kind == 1) = false := by rw [hk]; rfl
  have q2 : (e.kind == 2) = false := by rw [hk]; rfl
  have q4 : (e.kind == 4) = false := by rw [hk]; rfl
  have q5 : (e.kind == 5) = false := by rw [hk]; rfl
  have HK := Lib.hid hk
  have HBW := Lib.hid hbw
  clear h hbw hk hr hs hrd
  go_enter Tryz.func27, Tryz.ntmps27
  go_upto_region 1 with fail
  generalize ((w.alloc (.cells #[.int .i64 e.kind, .string e.topic, .string e.group, .int .i64 e.part, .int .i64 e.parts, .int .i64 e.first, .int .i64 e.off, .int .i64 e.bat.time, .int .i64 e.bat.prod, .int .i64 e.bat.seq, .slice A n c] 34)).alloc (.cells #[.int .i64 0, .int .i64 0, .bool false] 25)) = W at HBW HP HS HRd ⊢
  have c0 : W.cell? ⟨w.heap.size, 0, none⟩ = some (.int .i64 e.kind) := HBW.out.ent.cell 0
  have c1 : W.cell? ⟨w.heap.size, 1, none⟩ = some (.string e.topic) := HBW.out.ent.cell 1
  have c3 : W.cell? ⟨w.heap.size, 3, none⟩ = some (.int .i64 e.part) := HBW.out.ent.cell 3
  have hst := stD_row HBW.out.done rfl 0 0 false
  go_wp2_with fail
  with_reducible refine HP.out.mono ?_
  rintro er w1 ⟨hp, rfl⟩
  rcases hp with ⟨hno, rfl⟩ | ⟨t, kk, p, g, h1, h2, h3, h4, h5, rfl, hg, hob, d0, d1⟩
  · have HA := Lib.hid (app_none (by have := HK.out; omega) (by have := HK.out; omega) hno stripe at_)
    clear hno HP
    go_wp2_with fail
    refine bodyPost_ret (res_done (p := 8) (u := 9) rfl _ _ (w.heap.size + 1) 0 0 false rfl (Bk.row HBW.out.done _)) rfl ?_
    unfold ApR
    rw [HA.out]
    exact ⟨_, rfl, errV_no 10 (by decide), (Left.still HS.out (Below.refl _ _)).row HBW.out.below (Nat.le_succ _) HBW.out.lt HLim.out _⟩
  · have HA := Lib.hid (app3 HK.out h5 stripe at_)
    have hT := HS.out.tops t h1
    have HPr := Lib.hid (produce_any (P := fun i => o i = some (.part t.name kk)) (hT.log kk p h4).1 (hT.log kk p h4).2 (hT.ded kk p h4).1 (hT.ded kk p h4).2 hN (fun i hi => HS.out.lim i (by rw [hi]; simp)) (pg := g) (k2 := kk * 2) (fun hx => by rw [hT.own g hob] at hx; cases hx) d0 d1 e.bat A n c HRd.out HRb.out stripe at_ ‹0 ≤ stripe› ‹0 ≤ at_›)
    have hlb := ldB_of_ent HBW.out.ent
    have H1 := Lib.hid h1
    have H4 := Lib.hid h4
    have HNm := Lib.hid (And.intro h2 h3)
    clear h1 h2 h3 h4 h5 hT d0 d1 hob HP
    go_wp2_with fail
    with_reducible refine HPr.out.mono ?_
    rintro er w2 hpr
    obtain ⟨D, v, rfl, hD, hv, hl⟩ := prod_left HS.out H1.out H4.out hpr
    have hkd := HBW.out.done.turned hl.turned (fun hx => by have := HLim.out _ hx; omega)
    have hst2 := stD_row hkd rfl D.base D.cnt D.again
    have HKd := Lib.hid hkd
    have HV := Lib.hid hv
    have HL := Lib.hid hl
    have HD := Lib.hid hD
    clear hkd hv hl hst hpr HPr hD hlb
    go_wp2_with fail
    refine bodyPost_ret (res_done (p := 8) (u := 9) rfl _ _ (w.heap.size + 1) D.base D.cnt D.again rfl (Bk.row HKd.out _)) rfl ?_
    unfold ApR
    rw [HA.out, HNm.out.2, ← HNm.out.1, ← HD.out]
    exact ⟨v, rfl, HV.out, HL.out.row HBW.out.below (Nat.le_succ _) HBW.out.lt HLim.out _⟩
end Go.Proofs.YtjodiieeocaipaaGreatDoor

/-
  state.apply: a group's mark.
-/
namespace Go.Proofs.YtjodiieeocaipaaGreatDoor
open Go.RowKit Go.Maps
attribute [local go_sem ↓] ldB_eq stB_eq ldE_eq stE_eq ldD_eq stD_eq

def isD (w : World) (g : Nat) : Prop := ∃ old : Array Value, Bk w g 25 old ∧ old.size = 3
theorem isD.st {w : World} {g : Nat} (h : isD w g) (a b : Int) (c : Bool) : (stD (.pointer (some ⟨g, 0, none⟩)) (.agg #[.int .i64 a, .int .i64 b, .bool c])).run Tryz.prog w = .ok () (w.setRow g #[.int .i64 a, .int .i64 b, .bool c]) := by
  obtain ⟨old, h1, h2⟩ := h
  exact stD_row h1 h2 a b c
theorem isD.bk {w : World} {g : Nat} (h : isD w g) (a b : Int) (c : Bool) : Bk (w.setRow g #[.int .i64 a, .int .i64 b, .bool c]) g 25 #[.int .i64 a, .int .i64 b, .bool c] := by
  obtain ⟨old, h1, h2⟩ := h
  exact h1.row _
theorem isD.turned {w w' : World} {g : Nat} {Q : Nat → Prop} (h : isD w g) (ht : Turned Q w w') (hq : ¬ Q g) : isD w' g := by
  obtain ⟨old, h1, h2⟩ := h
  exact ⟨old, h1.turned ht hq, h2⟩
/-- group.Set under a State -/
theorem set_left {o : Nat → Option Who} {s N : Nat} {S : StW} {W : World} (h : StAt W o s N S) (a t : ByteArray) (p x : Int) (ha : nameOk a = true) (ht : nameOk t = true) (hp : 0 ≤ p ∧ p < 4) (hx : 0 ≤ x ∧ x ≤ maxI) :
    ∃ (v : Value) (k : Int) (M : StM), ErrV v k ∧ k = setBad S.grp a t p x ∧ M = (if setBad S.grp a t p x = 0 then ⟨S.m.top, S.grp.put (mkey a t p) (.lit (.int .i64 x))⟩ else S.m) ∧
      Calls Tryz.prog 52 #[.pointer (some ⟨S.g, 0, none⟩), .string a, .string t, .int .i64 p, .int .i64 x] W.drew fun er w' => er = .returned v ∧ Left W w' o s (N + 1) M ∧ W.grownBy w' (some S.gb) := by
  have hG : Grp W.drew S.g S.gb S.grp := h.grp.ext (below_drew1 (Below.refl _ _))
  have hfrom : ∀ (w' : World) (r : Option Nat), W.drew.grownBy w' r → W.grownBy w' r := fun w' r hg => ⟨hg.os, hg.tape, hg.output, hg.size, hg.block⟩
  by_cases hfit : Maps.has S.grp (mkey a t p) = true ∨ Maps.size S.grp < 32
  · have hbad : setBad S.grp a t p x = 0 := by
      unfold setBad
      rw [ha, ht, decide_eq_true hp.1, decide_eq_true hp.2, decide_eq_true hx.1, if_pos (by rfl), if_pos]
      rcases hfit with hf | hf
      · rw [hf]; rfl
      · rw [decide_eq_true hf, Bool.or_true]
    have hsz : Maps.size (S.grp.put (mkey a t p) (.lit (.int .i64 x))) ≤ 32 := by
      rw [size_put (h.grp.own.tidy law_key)]
      have := h.marks
      split
      · exact this
      · rcases hfit with hf | hf
        · rename_i hx
          exact absurd hf hx
        · omega
    rw [hbad]
    exact ⟨.nilIface, 0, _, .inl ⟨rfl, rfl⟩, rfl, rfl, (set_ok S.g S.gb S.grp a t p x W.drew hG ha ht hp.1 hp.2 hx.1 hx.2 hfit (Nat.le_trans h.marks (by omega))).mono fun er w' ⟨h1, h2, h3⟩ => ⟨h1, grp_left h h2 (hfrom _ _ h3) hsz, hfrom _ _ h3⟩⟩
  · have hno : Maps.has S.grp (mkey a t p) = false := Bool.eq_false_iff.2 (fun e => hfit (.inl e))
    have hbig : 32 ≤ Maps.size S.grp := Nat.le_of_not_lt (fun e => hfit (.inr e))
    have hbad : setBad S.grp a t p x = 8 := by
      unfold setBad
      rw [ha, ht, decide_eq_true hp.1, decide_eq_true hp.2, decide_eq_true hx.1, if_pos (by rfl), if_neg]
      rw [hno, decide_eq_false (by omega)]
      decide
    rw [hbad]
    exact ⟨faultV opSet p 8, 8, _, .inr ⟨by decide, 1, Nat.le_refl _, .flt 0 opSet p (noV 8) 8 (.no 8)⟩, rfl, rfl, (set_full S.g S.gb S.grp a t p x W.drew hG ha ht hp.1 hp.2 hx.1 hno hbig).mono fun er w' ⟨h1, h2⟩ => ⟨h1, Left.still h ((below_drew1 (Below.refl _ _)).trans h2), (hfrom _ _ (grown_of_below h2)).but _⟩⟩
set_option maxRecDepth 100000 in
set_option maxHeartbeats 2000000 in
theorem apply4_any {o : Nat → Option Who} {s N : Nat} {S : StW} {w : World} (h : StAt w o s N S) (e : Ent) (A : Option Addr) (n c : Nat) (hr : rightE e = true) (hk : e.kind = 4) (stripe at_ : Int) :
    Calls Tryz.prog 27 #[.pointer (some ⟨s, 0, none⟩), .agg #[.int .i64 e.kind, .string e.topic, .string e.group, .int .i64 e.part, .int .i64 e.parts, .int .i64 e.first, .int .i64 e.off, .int .i64 e.bat.time, .int .i64 e.bat.prod, .int .i64 e.bat.seq, .slice A n c], .int .i64 stripe, .int .i64 at_] w
      fun er w' => ApR o s N S.m e stripe at_ w w' er := by
  have hbw := box_ok w e A n c
  have hs := h.ext hbw.below
  have HP := Lib.hid (part_any hs e.topic (right_short hr) e.part)
  have HLim := Lib.hid h.lim
  have HS := Lib.hid hs
  have HR4 := Lib.hid (right4 hr hk)
  have HRT := Lib.hid (right_topic hr)
  unfold boxW at hbw HP HS
  have q1 : (e.kind == 1) = false := by rw [hk]; rfl
  have q2 : (e.kind == 2) = false := by rw [hk]; rfl
  have q4 : (e.kind == 4) = true := by rw [hk]; rfl
  have HK := Lib.hid hk
  have HBW := Lib.hid hbw
  clear h hbw hk hr hs
  go_enter Tryz.func27, Tryz.ntmps27
  go_upto_region 1 with fail
  generalize ((w.alloc (.cells #[.int .i64 e.kind, .string e.topic, .string e.group, .int .i64 e.part, .int .i64 e.parts, .int .i64 e.first, .int .i64 e.off, .int .i64 e.bat.time, .int .i64 e.bat.prod, .int .i64 e.bat.seq, .slice A n c] 34)).alloc (.cells #[.int .i64 0, .int .i64 0, .bool false] 25)) = W at HBW HP HS ⊢
  have c0 : W.cell? ⟨w.heap.size, 0, none⟩ = some (.int .i64 e.kind) := HBW.out.ent.cell 0
  have c1 : W.cell? ⟨w.heap.size, 1, none⟩ = some (.string e.topic) := HBW.out.ent.cell 1
  have c3 : W.cell? ⟨w.heap.size, 3, none⟩ = some (.int .i64 e.part) := HBW.out.ent.cell 3
  have hst := stD_row HBW.out.done rfl 0 0 false
  go_wp2_with fail
  with_reducible refine HP.out.mono ?_
  rintro er w1 ⟨hp, rfl⟩
  rcases hp with ⟨hno, rfl⟩ | ⟨t, kk, p, g, h1, h2, h3, h4, h5, rfl, hg, hob, d0, d1⟩
  · have HA := Lib.hid (app_none (by have := HK.out; omega) (by have := HK.out; omega) hno stripe at_)
    clear hno HP
    go_wp2_with fail
    refine bodyPost_ret (res_done (p := 8) (u := 9) rfl _ _ (w.heap.size + 1) 0 0 false rfl (Bk.row HBW.out.done _)) rfl ?_
    unfold ApR
    rw [HA.out]
    exact ⟨_, rfl, errV_no 10 (by decide), (Left.still HS.out (Below.refl _ _)).row HBW.out.below (Nat.le_succ _) HBW.out.lt HLim.out _⟩
  · have HA := Lib.hid (app4 HK.out h5 stripe at_)
    have s1 : W.cell? ⟨s, 1, none⟩ = some (.pointer (some ⟨S.g, 0, none⟩)) := HS.out.bk.cell 1
    have c2 : W.cell? ⟨w.heap.size, 2, none⟩ = some (.string e.group) := HBW.out.ent.cell 2
    have c6 : W.cell? ⟨w.heap.size, 6, none⟩ = some (.int .i64 e.off) := HBW.out.ent.cell 6
    obtain ⟨ra, rb, rd⟩ := HR4.out
    obtain ⟨v, kd, M', hv, hkd, hM, hset⟩ := set_left HS.out e.group e.topic e.part e.off ra HRT.out rb rd
    have hap : applyR S.m e stripe at_ = (M', noDone, kd) := by
      rw [HA.out, hM, hkd]
      show (if setBad S.grp _ _ _ _ = 0 then _ else _) = _
      split
      · rename_i hz
        rw [hz]
        rfl
      · rfl
    have HV := Lib.hid hv
    have HSt := Lib.hid hset
    have HA3 := Lib.hid hap
    have hgl : S.gb ≠ w.heap.size ∧ S.gb ≠ w.heap.size + 1 ∧ S.gb ≠ s := by
      have g1 := HLim.out S.gb (by rw [HS.out.own.2.2.2]; simp)
      refine ⟨by omega, by omega, fun ee => ?_⟩
      have g2 := HS.out.own.2.2.2
      rw [ee, HS.out.own.1] at g2
      cases g2
    have g3 := HLim.out s (by rw [HS.out.own.1]; simp)
    have FS : Hid (∀ w', Turned (fun i => i = S.gb ∨ i = w.heap.size + 1) W w' ∧ isD w' (w.heap.size + 1) → ((Turned (fun i => i = S.gb ∨ i = w.heap.size + 1) W w' ∧ isD w' (w.heap.size + 1)) ∧ w'.cell? ⟨s, 1, none⟩ = some (.pointer (some ⟨S.g, 0, none⟩)) ∧ w'.cell? ⟨w.heap.size, 2, none⟩ = some (.string e.group) ∧ w'.cell? ⟨w.heap.size, 1, none⟩ = some (.string e.topic) ∧ w'.cell? ⟨w.heap.size, 3, none⟩ = some (.int .i64 e.part) ∧ w'.cell? ⟨w.heap.size, 6, none⟩ = some (.int .i64 e.off) ∧ (stD (.pointer (some ⟨w.heap.size + 1, 0, none⟩)) (.agg #[.int .i64 0, .int .i64 0, .bool false])).run Tryz.prog w' = .ok () (w'.setRow (w.heap.size + 1) #[.int .i64 0, .int .i64 0, .bool false]))) := by
      rintro w' ⟨ht, hd⟩
      have hE := HBW.out.ent.turned ht (fun hx => by omega)
      exact ⟨⟨ht, hd⟩, (HS.out.bk.turned ht (fun hx => by rcases hx with hx | hx; exact hgl.2.2 hx.symm; omega)).cell 1, hE.cell 2, hE.cell 1, hE.cell 3, hE.cell 6, hd.st 0 0 false⟩
    have hD0 : isD W (w.heap.size + 1) := ⟨_, HBW.out.done, rfl⟩
    have F0 : Hid (Turned (fun i => i = S.gb ∨ i = w.heap.size + 1) W W.drew ∧ isD W.drew (w.heap.size + 1)) := ⟨Turned.of_below (below_drew1 (Below.refl _ _)), hD0⟩
    have F1 : Hid (∀ w2, W.grownBy w2 (some S.gb) → Turned (fun i => i = S.gb ∨ i = w.heap.size + 1) W w2 ∧ isD w2 (w.heap.size + 1)) := fun w2 hg => by
      have ht : Turned (fun i => i = S.gb) W w2 := Turned.of_grown hg (fun k e => (Option.some.inj e).symm)
      exact ⟨ht.more (fun _ _ e => .inl e), hD0.turned ht (fun ee => hgl.2.1 ee.symm)⟩
    have F2 : Hid (∀ (w' : World) (r : Array Value) (R : Prop), (Turned (fun i => i = S.gb ∨ i = w.heap.size + 1) W w' ∧ isD w' (w.heap.size + 1)) ∧ R → r.size = 3 → Turned (fun i => i = S.gb ∨ i = w.heap.size + 1) W (w'.setRow (w.heap.size + 1) r) ∧ isD (w'.setRow (w.heap.size + 1) r) (w.heap.size + 1)) := by
      rintro w' r R ⟨⟨ht, old, hb, ho⟩, _⟩ hr
      exact ⟨ht.then_grown (grown_row w' _ r) (fun j e => .inl (.inr (Option.some.inj e).symm)), r, hb.row r, hr⟩
    clear h1 h2 h3 h4 h5 d0 d1 hob HP HA ra rb rd hst hgl g3 hD0 hv hkd hM hset hap
    go_upto_region 10 with fail
    clear s1 c2 c6 c1 c3
    go_region_held3 (fun w' => (Turned (fun i => i = S.gb ∨ i = w.heap.size + 1) W w' ∧ isD w' (w.heap.size + 1)) ∧ w'.cell? ⟨s, 1, none⟩ = some (.pointer (some ⟨S.g, 0, none⟩)) ∧ w'.cell? ⟨w.heap.size, 2, none⟩ = some (.string e.group) ∧ w'.cell? ⟨w.heap.size, 1, none⟩ = some (.string e.topic) ∧ w'.cell? ⟨w.heap.size, 3, none⟩ = some (.int .i64 e.part) ∧ w'.cell? ⟨w.heap.size, 6, none⟩ = some (.int .i64 e.off) ∧ (stD (.pointer (some ⟨w.heap.size + 1, 0, none⟩)) (.agg #[.int .i64 0, .int .i64 0, .bool false])).run Tryz.prog w' = .ok () (w'.setRow (w.heap.size + 1) #[.int .i64 0, .int .i64 0, .bool false])) (first | exact FS.out _ F0.out | exact FS.out _ (F1.out _ HG2.out.2) | exact FS.out _ (F2.out _ _ _ (by assumption) rfl)) (first | (go_at_call 52; with_reducible refine HSt.out.mono ?_; rintro er w2 ⟨rfl, hg2, hgr2⟩; have HG2 := Lib.hid (And.intro hg2 hgr2); clear hg2 hgr2) | fail)
    all_goals
      have hdn := (F1.out _ HG2.out.2).2.bk 0 0 false
      have HDn := Lib.hid hdn
      clear hdn
      go_wp2_with fail
      refine bodyPost_ret (res_done (p := 8) (u := 9) rfl _ _ (w.heap.size + 1) 0 0 false rfl HDn.out) rfl ?_
      unfold ApR
      rw [HA3.out]
      exact ⟨_, rfl, HV.out, HG2.out.1.row HBW.out.below (Nat.le_succ _) HBW.out.lt HLim.out _⟩
end Go.Proofs.YtjodiieeocaipaaGreatDoor

/-
  state.apply: a trim.
-/
namespace Go.Proofs.YtjodiieeocaipaaGreatDoor
open Go.RowKit Go.Maps
attribute [local go_sem ↓] ldB_eq stB_eq ldE_eq stE_eq ldD_eq stD_eq

theorem set_same {V : List TopW} (hs : Sorted V) {t : TopW} {kk : Nat} {p : PartW} (ht : t ∈ V) (hp : t.ps[kk]? = some p) : setT (V.map TopW.m) t.name kk p.m = V.map TopW.m := by
  have h0 : setW V t.name kk p = V := by
    unfold setW
    conv => rhs; rw [← List.map_id V]
    apply List.map_congr_left
    intro u hu
    split
    · rename_i hn
      obtain rfl := sorted_names hs hu ht hn
      have : u.ps.set kk p = u.ps := by
        apply List.ext_getElem?
        intro j
        rw [List.getElem?_set]
        split
        · rename_i e
          subst e
          rw [if_pos (List.getElem?_eq_some_iff.1 hp).1, hp]
        · rfl
      rw [this]
      rfl
    · rfl
  have := set_m V t.name kk p
  rw [h0] at this
  exact this.symm
/-- plog.Trim under a State -/
theorem trim_left {o : Nat → Option Who} {s N : Nat} {S : StW} {W : World} (h : StAt W o s N S) (hN : N ≤ 900000) {t : TopW} {kk : Nat} {p : PartW} (ht : t ∈ S.V) (hp : t.ps[kk]? = some p) (off : Int) (ho : 0 ≤ off ∧ off ≤ maxI) :
    Calls Tryz.prog 53 #[.pointer (some ⟨p.lb, 0, none⟩), .int .i64 off] W.drew fun er w' => ∃ v, er = .returned v ∧ ErrV v (trimBad p.m.log off) ∧ Left W w' o s (N + 1) (if trimBad p.m.log off = 0 then ⟨setT S.m.top t.name kk ⟨trimLog p.m.log off, p.m.ded⟩, S.grp⟩ else S.m) ∧ Turned (fun i => o i = some (.part t.name kk)) W w' := by
  have hT := h.tops t ht
  obtain ⟨mb, p1, p2, hl, hd⟩ := part_split (hT.log kk p hp).1 (hT.ded kk p hp).1
  have hlo := (hT.log kk p hp).2
  refine (logTrim_any (hl.ext (below_drew1 (Below.refl _ _))) hlo (by omega) off ho).mono ?_
  rintro er w' ⟨v, rfl, hc, ht'⟩
  have hT' : Turned (fun i => (o i = some (.part t.name kk) ∧ i ≠ p.db) ∧ i ≠ mb) W w' := ⟨ht'.os, ht'.tape, ht'.output, ht'.size, ht'.block⟩
  have hTp : Turned (fun i => o i = some (.part t.name kk)) W w' := hT'.more (fun i _ h => h.1.1)
  rcases hc with ⟨hz, rfl, hl'⟩ | ⟨hz, he, hl'⟩
  · refine ⟨_, rfl, .inl ⟨hz, rfl⟩, ?_, hTp⟩
    rw [if_pos hz]
    exact log_left h ht hp p1 p2 hd hT' hl' ((trimLog_ok hlo hz).mono (Nat.le_succ N))
  · refine ⟨_, rfl, .inr ⟨by rw [hz]; decide, 1, Nat.le_refl _, by rw [hz]; exact he⟩, ?_, hTp⟩
    rw [if_neg (by rw [hz]; decide)]
    have := log_left h ht hp p1 p2 hd hT' hl' (hlo.mono (Nat.le_succ N))
    rw [show (⟨p.m.log, p.m.ded⟩ : PartM) = p.m from rfl, show S.m.top = S.V.map TopW.m from rfl, set_same h.sorted ht hp] at this
    exact this
set_option maxRecDepth 100000 in
set_option maxHeartbeats 2000000 in
theorem apply5_any {o : Nat → Option Who} {s N : Nat} {S : StW} {w : World} (h : StAt w o s N S) (hN : N ≤ 900000) (e : Ent) (A : Option Addr) (n c : Nat) (hr : rightE e = true) (hk : e.kind = 5) (stripe at_ : Int) :
    Calls Tryz.prog 27 #[.pointer (some ⟨s, 0, none⟩), .agg #[.int .i64 e.kind, .string e.topic, .string e.group, .int .i64 e.part, .int .i64 e.parts, .int .i64 e.first, .int .i64 e.off, .int .i64 e.bat.time, .int .i64 e.bat.prod, .int .i64 e.bat.seq, .slice A n c], .int .i64 stripe, .int .i64 at_] w
      fun er w' => ApR o s N S.m e stripe at_ w w' er := by
  have hbw := box_ok w e A n c
  have hs := h.ext hbw.below
  have HP := Lib.hid (part_any hs e.topic (right_short hr) e.part)
  have HLim := Lib.hid h.lim
  have HS := Lib.hid hs
  have HR5 := Lib.hid (right5 hr hk)
  unfold boxW at hbw HP HS
  have q1 : (e.kind == 1) = false := by rw [hk]; rfl
  have q2 : (e.kind == 2) = false := by rw [hk]; rfl
  have q4 : (e.kind == 4) = false := by rw [hk]; rfl
  have q5 : (e.kind == 5) = true := by rw [hk]; rfl
  have HK := Lib.hid hk
  have HBW := Lib.hid hbw
  clear h hbw hk hr hs
  go_enter Tryz.func27, Tryz.ntmps27
  go_upto_region 1 with fail
  generalize ((w.alloc (.cells #[.int .i64 e.kind, .string e.topic, .string e.group, .int .i64 e.part, .int .i64 e.parts, .int .i64 e.first, .int .i64 e.off, .int .i64 e.bat.time, .int .i64 e.bat.prod, .int .i64 e.bat.seq, .slice A n c] 34)).alloc (.cells #[.int .i64 0, .int .i64 0, .bool false] 25)) = W at HBW HP HS ⊢
  have c0 : W.cell? ⟨w.heap.size, 0, none⟩ = some (.int .i64 e.kind) := HBW.out.ent.cell 0
  have c1 : W.cell? ⟨w.heap.size, 1, none⟩ = some (.string e.topic) := HBW.out.ent.cell 1
  have c3 : W.cell? ⟨w.heap.size, 3, none⟩ = some (.int .i64 e.part) := HBW.out.ent.cell 3
  have hst := stD_row HBW.out.done rfl 0 0 false
  go_wp2_with fail
  with_reducible refine HP.out.mono ?_
  rintro er w1 ⟨hp, rfl⟩
  rcases hp with ⟨hno, rfl⟩ | ⟨t, kk, p, g, h1, h2, h3, h4, h5, rfl, hg, hob, d0, d1⟩
  · have HA := Lib.hid (app_none (by have := HK.out; omega) (by have := HK.out; omega) hno stripe at_)
    clear hno HP
    go_wp2_with fail
    refine bodyPost_ret (res_done (p := 8) (u := 9) rfl _ _ (w.heap.size + 1) 0 0 false rfl (Bk.row HBW.out.done _)) rfl ?_
    unfold ApR
    rw [HA.out]
    exact ⟨_, rfl, errV_no 10 (by decide), (Left.still HS.out (Below.refl _ _)).row HBW.out.below (Nat.le_succ _) HBW.out.lt HLim.out _⟩
  · have HA := Lib.hid (app5 HK.out h5 stripe at_)
    have c6 : W.cell? ⟨w.heap.size, 6, none⟩ = some (.int .i64 e.off) := HBW.out.ent.cell 6
    have hset := trim_left HS.out hN h1 h4 e.off HR5.out
    have hap : applyR S.m e stripe at_ = ((if trimBad p.m.log e.off = 0 then ⟨setT S.m.top t.name kk ⟨trimLog p.m.log e.off, p.m.ded⟩, S.grp⟩ else S.m), noDone, trimBad p.m.log e.off) := by
      rw [HA.out, h2, h3]
      split
      · rename_i hz
        rw [hz]
        rfl
      · rfl
    have HSt := Lib.hid hset
    have HA3 := Lib.hid hap
    have hog := (HS.out.tops t h1).own g hob
    have hgw := HLim.out g (by rw [hog]; simp)
    have hol : ∀ i, o i = some (.part t.name kk) → i < w.heap.size := fun i e => HLim.out i (by rw [e]; simp)
    have FS : Hid (∀ w', Turned (fun i => o i = some (.part t.name kk) ∨ i = w.heap.size + 1) W w' ∧ isD w' (w.heap.size + 1) → ((Turned (fun i => o i = some (.part t.name kk) ∨ i = w.heap.size + 1) W w' ∧ isD w' (w.heap.size + 1)) ∧ w'.cell? ⟨g, kk * 2, none⟩ = some (.pointer (some ⟨p.lb, 0, none⟩)) ∧ w'.cell? ⟨w.heap.size, 6, none⟩ = some (.int .i64 e.off) ∧ (stD (.pointer (some ⟨w.heap.size + 1, 0, none⟩)) (.agg #[.int .i64 0, .int .i64 0, .bool false])).run Tryz.prog w' = .ok () (w'.setRow (w.heap.size + 1) #[.int .i64 0, .int .i64 0, .bool false]))) := by
      rintro w' ⟨ht, hd⟩
      have hE := HBW.out.ent.turned ht (fun hx => by
        rcases hx with hx | hx
        · have := hol _ hx; omega
        · omega)
      exact ⟨⟨ht, hd⟩, (ht.cell (p := ⟨g, kk * 2, none⟩) (cell_lt d0) (fun hx => by
        rcases hx with hx | hx
        · rw [show (⟨g, kk * 2, none⟩ : Addr).block = g from rfl, hog] at hx; cases hx
        · have : g = w.heap.size + 1 := hx
          omega)).trans d0, hE.cell 6, hd.st 0 0 false⟩
    have hD0 : isD W (w.heap.size + 1) := ⟨_, HBW.out.done, rfl⟩
    have F0 : Hid (Turned (fun i => o i = some (.part t.name kk) ∨ i = w.heap.size + 1) W W.drew ∧ isD W.drew (w.heap.size + 1)) := ⟨Turned.of_below (below_drew1 (Below.refl _ _)), hD0⟩
    have F1 : Hid (∀ w2, Turned (fun i => o i = some (.part t.name kk)) W w2 → Turned (fun i => o i = some (.part t.name kk) ∨ i = w.heap.size + 1) W w2 ∧ isD w2 (w.heap.size + 1)) := fun w2 ht =>
      ⟨ht.more (fun _ _ e => .inl e), hD0.turned ht (fun ee => by have := hol _ ee; omega)⟩
    have F2 : Hid (∀ (w' : World) (r : Array Value) (R : Prop), (Turned (fun i => o i = some (.part t.name kk) ∨ i = w.heap.size + 1) W w' ∧ isD w' (w.heap.size + 1)) ∧ R → r.size = 3 → Turned (fun i => o i = some (.part t.name kk) ∨ i = w.heap.size + 1) W (w'.setRow (w.heap.size + 1) r) ∧ isD (w'.setRow (w.heap.size + 1) r) (w.heap.size + 1)) := by
      rintro w' r R ⟨⟨ht, old, hb, ho⟩, _⟩ hr
      exact ⟨ht.then_grown (grown_row w' _ r) (fun j e => .inl (.inr (Option.some.inj e).symm)), r, hb.row r, hr⟩
    have e0 : W.cell? ⟨g, kk * 2, none⟩ = some (.pointer (some ⟨p.lb, 0, none⟩)) := d0
    clear h1 h2 h3 h4 h5 d0 d1 hob HP HA hst hog hgw hol hD0 hset hap
    go_upto_region 12 with fail
    clear e0 c6 c1 c3
    go_region_held3 (fun w' => ((Turned (fun i => o i = some (.part t.name kk) ∨ i = w.heap.size + 1) W w' ∧ isD w' (w.heap.size + 1)) ∧ w'.cell? ⟨g, kk * 2, none⟩ = some (.pointer (some ⟨p.lb, 0, none⟩)) ∧ w'.cell? ⟨w.heap.size, 6, none⟩ = some (.int .i64 e.off) ∧ (stD (.pointer (some ⟨w.heap.size + 1, 0, none⟩)) (.agg #[.int .i64 0, .int .i64 0, .bool false])).run Tryz.prog w' = .ok () (w'.setRow (w.heap.size + 1) #[.int .i64 0, .int .i64 0, .bool false]))) (first | exact FS.out _ F0.out | exact FS.out _ (F1.out _ HG2.out) | exact FS.out _ (F2.out _ _ _ (by assumption) rfl)) (first | (go_at_call 53; with_reducible refine HSt.out.mono ?_; rintro er w2 ⟨v, rfl, hv2, hl2, hg2⟩; have HG2 := Lib.hid hg2; have HV := Lib.hid hv2; have HL2 := Lib.hid hl2; clear hg2 hv2 hl2) | fail)
    all_goals
      have hdn := (F1.out _ HG2.out).2.bk 0 0 false
      have HDn := Lib.hid hdn
      clear hdn
      go_wp2_with fail
      refine bodyPost_ret (res_done (p := 8) (u := 9) rfl _ _ (w.heap.size + 1) 0 0 false rfl HDn.out) rfl ?_
      unfold ApR
      rw [HA3.out]
      exact ⟨_, rfl, HV.out, HL2.out.row HBW.out.below (Nat.le_succ _) HBW.out.lt HLim.out _⟩
end Go.Proofs.YtjodiieeocaipaaGreatDoor

/-
  state.Apply.
-/
namespace Go.Proofs.YtjodiieeocaipaaGreatDoor
open Go.RowKit Go.Maps
attribute [local go_sem ↓] ldB_eq stB_eq ldE_eq stE_eq ldD_eq stD_eq

theorem apply_any {o : Nat → Option Who} {s N : Nat} {S : StW} {w : World} (h : StAt w o s N S) (hN : N ≤ 900000) (e : Ent) (A : Option Addr) (n c : Nat) (hrd : RdT w A n c e.bat.vals) (hr : rightE e = true) (stripe at_ : Int) (h0 : 0 ≤ stripe) (h1 : 0 ≤ at_) :
    Calls Tryz.prog 27 #[.pointer (some ⟨s, 0, none⟩), .agg #[.int .i64 e.kind, .string e.topic, .string e.group, .int .i64 e.part, .int .i64 e.parts, .int .i64 e.first, .int .i64 e.off, .int .i64 e.bat.time, .int .i64 e.bat.prod, .int .i64 e.bat.seq, .slice A n c], .int .i64 stripe, .int .i64 at_] w
      fun er w' => ApR o s N S.m e stripe at_ w w' er := by
  rcases kind_cases (right_kind hr) with hk | hk | hk | hk | hk
  · exact apply1_any h e A n c hr hk stripe at_
  · exact apply2_any h e A n c hr hk stripe at_
  · exact apply3_any h hN e A n c hrd hr hk stripe at_ h0 h1
  · exact apply4_any h e A n c hr hk stripe at_
  · exact apply5_any h hN e A n c hr hk stripe at_
/-- an error with a number, or none -/
def ErrV2 (v : Value) (k : Int) : Prop := (k = 0 ∧ v = .nilIface) ∨ (k ≠ 0 ∧ ∃ d, d ≤ 1 ∧ IsErr (d + 1) v k)
theorem wrap_errV {v : Value} {k : Int} (h : ErrV v k) (op : ByteArray) (at_ : Int) (w : World) : Calls Tryz.prog 26 #[.string op, .int .i64 at_, v] w fun e w' => ∃ v', e = .returned v' ∧ ErrV2 v' k ∧ w' = w := by
  rcases h with ⟨hk, rfl⟩ | ⟨hk, d, hd, he⟩
  · exact (wrap_nil op at_ w).mono fun e w' ⟨h1, h2⟩ => ⟨_, h1, .inl ⟨hk, rfl⟩, h2⟩
  · exact (wrap_err he op at_ w).mono fun e w' ⟨v', h1, h2, h3⟩ => ⟨v', h1, .inr ⟨hk, d, hd, h2⟩, h3⟩
theorem Left.quiet {w W w1 w2 : World} {o : Nat → Option Who} {s N : Nat} {M : StM} (h : Left W w1 o s N M) (hb : Below w.heap.size w W) {g : Nat} (hg : w.heap.size ≤ g) (hgW : g < W.heap.size) (ho : ∀ i, o i ≠ none → i < w.heap.size) (hT : Turned (fun i => i = g) w1 w2) : Left w w2 o s N M := by
  obtain ⟨⟨o', S', h1, h2, h3⟩, h4⟩ := h
  refine ⟨⟨o', S', h1.turned hT (fun i _ hi e => ?_), h2, fun i hi => h3 i (Nat.lt_of_lt_of_le hi hb.size)⟩, ?_⟩
  · subst e
    rw [h3 i hgW] at hi
    have := ho i hi
    omega
  · exact ((Turned.of_below hb).trans h4 (fun _ _ h => h)).trans hT (fun i hi e => by
      subst e
      omega)
theorem Bk.keep_row {w : World} {g g' : Nat} {t : TypeId} {cs : Array Value} (h : Bk w g t cs) (r : Array Value) (hn : g ≠ g') : Bk (w.setRow g' r) g t cs := h.turned (Turned.of_grown (P := fun i => i = g') (grown_row w g' r) (fun _ e => (Option.some.inj e).symm)) hn
theorem errV2_one {v : Value} (h : IsErr 1 v 1) : ErrV2 v 1 := .inr ⟨by decide, 0, by omega, h⟩
/-- what Apply hands back -/
def AppR (o : Nat → Option Who) (s N : Nat) (M : StM) (e : Ent) (stripe at_ : Int) (w w' : World) (er : Ending) : Prop :=
  ∃ v, er = .returned (.tuple #[.agg (doneA (applyM M e stripe at_).2.1), v]) ∧ ErrV2 v (applyM M e stripe at_).2.2 ∧ Left w w' o s (N + 1) (applyM M e stripe at_).1
set_option maxRecDepth 100000 in
set_option maxHeartbeats 4000000 in
theorem Apply_any {o : Nat → Option Who} {s N : Nat} {S : StW} {w : World} (h : StAt w o s N S) (hN : N ≤ 900000) (e : Ent) (A : Option Addr) (n c : Nat) (hrd : RdT w A n c e.bat.vals) (stripe at_ : Int) :
    Calls Tryz.prog 11 #[.pointer (some ⟨s, 0, none⟩), .agg #[.int .i64 e.kind, .string e.topic, .string e.group, .int .i64 e.part, .int .i64 e.parts, .int .i64 e.first, .int .i64 e.off, .int .i64 e.bat.time, .int .i64 e.bat.prod, .int .i64 e.bat.seq, .slice A n c], .int .i64 stripe, .int .i64 at_] w
      fun er w' => AppR o s N S.m e stripe at_ w w' er := by
  have hbw := box_ok w e A n c
  obtain ⟨r, hre⟩ : ∃ r, rightE e = r := ⟨_, rfl⟩
  have HR := Lib.hid (eRight_any e A n c (boxW w e A n c) (hrd.ext hbw.below) r hre)
  have HLim := Lib.hid h.lim
  have HS := Lib.hid (h.ext hbw.below)
  have HRd := Lib.hid (hrd.ext hbw.below)
  have HRe := Lib.hid hre
  unfold boxW at hbw HR HS HRd
  have HBW := Lib.hid hbw
  clear h hbw hre hrd
  go_enter Tryz.func11, Tryz.ntmps11
  go_upto_region 1 with fail
  generalize ((w.alloc (.cells #[.int .i64 e.kind, .string e.topic, .string e.group, .int .i64 e.part, .int .i64 e.parts, .int .i64 e.first, .int .i64 e.off, .int .i64 e.bat.time, .int .i64 e.bat.prod, .int .i64 e.bat.seq, .slice A n c] 34)).alloc (.cells #[.int .i64 0, .int .i64 0, .bool false] 25)) = W at HBW HR HS HRd ⊢
  have hld := ldE_bk HBW.out.ent
  go_wp2_with fail
  with_reducible refine HR.out.mono ?_
  rintro er w1 ⟨rfl, hb1⟩
  have HB1 := Lib.hid hb1
  have hld1 := ldE_bk (HBW.out.ent.ext hb1)
  have hst := stD_row (HBW.out.done.ext hb1) rfl 0 0 false
  clear hb1 hld HR
  by_cases hgood : r = true ∧ 0 ≤ stripe ∧ 0 ≤ at_
  · obtain ⟨rfl, g1, g2⟩ := hgood
    have q1 : ¬ stripe < 0 := by omega
    have q2 : ¬ at_ < 0 := by omega
    have HA := Lib.hid (apply_any (HS.out.ext HB1.out) hN e A n c (HRd.out.ext HB1.out) HRe.out stripe at_ g1 g2)
    have HM : Hid (applyM S.m e stripe at_ = applyR S.m e stripe at_) := by
      show applyM _ _ _ _ = _
      unfold applyM
      rw [if_pos ⟨HRe.out, g1, g2⟩]
    go_wp2_with fail
    with_reducible refine HA.out.mono ?_
    rintro er w2 ⟨v, rfl, hv, hl⟩
    obtain ⟨D, hD⟩ : ∃ D, (applyR S.m e stripe at_).2.1 = D := ⟨_, rfl⟩
    rw [hD]
    unfold doneA
    have hkd := (HBW.out.done.ext HB1.out).turned hl.turned (fun hx => by have := HLim.out _ hx; omega)
    have hbn := below_new w2 (.cells #[.int .i64 0, .int .i64 0, .bool false] 25)
    have hst2 := stD_row (Bk.made w2 25 #[.int .i64 0, .int .i64 0, .bool false]) rfl D.base D.cnt D.again
    have hkn := (Bk.made w2 25 #[.int .i64 0, .int .i64 0, .bool false]).row #[.int .i64 D.base, .int .i64 D.cnt, .bool D.again]
    have hwl := hl.turned.size
    have hw1 := HB1.out.size
    have hw0 := HBW.out.lt
    have hkd2 := (hkd.ext hbn).keep_row (g' := w2.heap.size) #[.int .i64 D.base, .int .i64 D.cnt, .bool D.again] (by omega)
    have hbx := below_row hbn hbn.size (Nat.le_refl _) #[.int .i64 D.base, .int .i64 D.cnt, .bool D.again]
    have HD := Lib.hid hD
    have HV := Lib.hid hv
    have HL := Lib.hid hl
    have HKn := Lib.hid hkn
    have HKd := Lib.hid hkd2
    have HBx := Lib.hid hbx
    have HZ := Lib.hid (show w.heap.size + 1 < w1.heap.size ∧ w.heap.size + 1 < w2.heap.size by omega)
    clear hkd hbn hkn hkd2 hbx hv hl hD hwl hw1 hw0 HA hld1 hst
    go_upto_region 4 with fail
    generalize (w2.alloc (.cells #[.int .i64 0, .int .i64 0, .bool false] 25)).setRow w2.heap.size #[.int .i64 D.base, .int .i64 D.cnt, .bool D.again] = X at HKn HKd HBx ⊢
    have FS : Hid (∀ w', Turned (fun i => i = w.heap.size + 1) X w' ∧ isD w' (w.heap.size + 1) → ((Turned (fun i => i = w.heap.size + 1) X w' ∧ isD w' (w.heap.size + 1)) ∧ (ldD (.pointer (some ⟨w2.heap.size, 0, none⟩))).run Tryz.prog w' = .ok (.agg #[.int .i64 D.base, .int .i64 D.cnt, .bool D.again]) w' ∧ (stD (.pointer (some ⟨w.heap.size + 1, 0, none⟩)) (.agg #[.int .i64 D.base, .int .i64 D.cnt, .bool D.again])).run Tryz.prog w' = .ok () (w'.setRow (w.heap.size + 1) #[.int .i64 D.base, .int .i64 D.cnt, .bool D.again]))) := by
      rintro w' ⟨ht, hd⟩
      exact ⟨⟨ht, hd⟩, ldD_bk (HKn.out.turned ht (fun hx => by have := HZ.out; omega)), hd.st D.base D.cnt D.again⟩
    have F0 : Hid (Turned (fun i => i = w.heap.size + 1) X X.drew ∧ isD X.drew (w.heap.size + 1)) := ⟨Turned.of_below (below_drew1 (Below.refl _ _)), _, HKd.out, rfl⟩
    have F2 : Hid (∀ (w' : World) (r : Array Value) (R : Prop), (Turned (fun i => i = w.heap.size + 1) X w' ∧ isD w' (w.heap.size + 1)) ∧ R → r.size = 3 → Turned (fun i => i = w.heap.size + 1) X (w'.setRow (w.heap.size + 1) r) ∧ isD (w'.setRow (w.heap.size + 1) r) (w.heap.size + 1)) := by
      rintro w' r R ⟨⟨ht, old, hb, ho⟩, _⟩ hr
      exact ⟨ht.then_grown (grown_row w' _ r) (fun j e => .inl (Option.some.inj e).symm), r, hb.row r, hr⟩
    have HWr : Hid (∀ w', Calls Tryz.prog 26 #[.string ⟨#[115, 116, 97, 116, 101, 46, 65, 112, 112, 108, 121]⟩, .int .i64 0, v] w' fun er w'' => ∃ v', er = .returned v' ∧ ErrV2 v' (applyR S.m e stripe at_).2.2 ∧ w'' = w') := fun w' => wrap_errV HV.out _ _ w'
    go_region_held3 (fun w' => ((Turned (fun i => i = w.heap.size + 1) X w' ∧ isD w' (w.heap.size + 1)) ∧ (ldD (.pointer (some ⟨w2.heap.size, 0, none⟩))).run Tryz.prog w' = .ok (.agg #[.int .i64 D.base, .int .i64 D.cnt, .bool D.again]) w' ∧ (stD (.pointer (some ⟨w.heap.size + 1, 0, none⟩)) (.agg #[.int .i64 D.base, .int .i64 D.cnt, .bool D.again])).run Tryz.prog w' = .ok () (w'.setRow (w.heap.size + 1) #[.int .i64 D.base, .int .i64 D.cnt, .bool D.again]))) (first | exact FS.out _ F0.out | exact FS.out _ (F2.out _ _ _ (by assumption) rfl)) (first | (go_at_call 26; with_reducible refine (HWr.out _).mono ?_; rintro er w4 ⟨v', rfl, hv4, rfl⟩; have HV4 := Lib.hid hv4; clear hv4) | fail)
    all_goals
      have hdn := F0.out.2.bk D.base D.cnt D.again
      have HDn := Lib.hid hdn
      have htw := (F2.out X.drew #[.int .i64 D.base, .int .i64 D.cnt, .bool D.again] _ (FS.out _ F0.out) rfl).1
      have HTw := Lib.hid htw
      clear hdn htw
      go_wp2_with fail
      refine bodyPost_ret (res_done (p := 8) (u := 9) rfl _ _ (w.heap.size + 1) D.base D.cnt D.again rfl HDn.out) rfl ?_
      unfold AppR
      rw [HM.out, HD.out]
      have hall : Turned (fun i => i = w.heap.size + 1) w2 (X.drew.setRow (w.heap.size + 1) #[.int .i64 D.base, .int .i64 D.cnt, .bool D.again]) := (Turned.of_below HBx.out).trans HTw.out (fun _ _ h => h)
      exact ⟨_, rfl, HV4.out, HL.out.quiet (HBW.out.below.trans (below_le HBW.out.below.size HB1.out)) (Nat.le_succ _) HZ.out.1 HLim.out hall⟩
  · have hno : applyM S.m e stripe at_ = (S.m, noDone, 1) := by
      unfold applyM
      rw [if_neg (by rw [HRe.out]; exact hgood)]
    have HNo := Lib.hid hno
    have HK1 := Lib.hid (HBW.out.done.ext HB1.out)
    have HL : Hid (Left w (w1.setRow (w.heap.size + 1) #[.int .i64 0, .int .i64 0, .bool false]) o s (N + 1) S.m) := (Left.still HS.out HB1.out).row HBW.out.below (Nat.le_succ _) HBW.out.lt HLim.out _
    clear hno hld1
    cases r with
    | false =>
      clear hgood
      go_wp2_with (first | (go_at_call 26; refine (wrap_err (.no 1) _ _ _).mono ?_; rintro er w4 ⟨v4, rfl, he4, rfl⟩) | fail)
      refine bodyPost_ret (res_done (p := 8) (u := 9) rfl _ _ (w.heap.size + 1) 0 0 false rfl (Bk.row HK1.out _)) rfl ?_
      unfold AppR
      rw [HNo.out]
      exact ⟨_, rfl, errV2_one he4, HL.out⟩
    | true =>
      by_cases g1 : 0 ≤ stripe
      · have g2 : at_ < 0 := Int.lt_of_not_ge (fun g2 => hgood ⟨rfl, g1, g2⟩)
        have q1 : decide (stripe < 0) = false := decide_eq_false (by omega)
        have q2 : decide (at_ < 0) = true := decide_eq_true g2
        clear hgood
        go_wp2_with (first | (go_at_call 26; refine (wrap_err (.no 1) _ _ _).mono ?_; rintro er w4 ⟨v4, rfl, he4, rfl⟩) | fail)
        refine bodyPost_ret (res_done (p := 8) (u := 9) rfl _ _ (w.heap.size + 1) 0 0 false rfl (Bk.row HK1.out _)) rfl ?_
        unfold AppR
        rw [HNo.out]
        exact ⟨_, rfl, errV2_one he4, HL.out⟩
      · have g2 : stripe < 0 := by omega
        have q1 : decide (stripe < 0) = true := decide_eq_true g2
        clear hgood
        go_wp2_with (first | (go_at_call 26; refine (wrap_err (.no 1) _ _ _).mono ?_; rintro er w4 ⟨v4, rfl, he4, rfl⟩) | fail)
        refine bodyPost_ret (res_done (p := 8) (u := 9) rfl _ _ (w.heap.size + 1) 0 0 false rfl (Bk.row HK1.out _)) rfl ?_
        unfold AppR
        rw [HNo.out]
        exact ⟨_, rfl, errV2_one he4, HL.out⟩
end Go.Proofs.YtjodiieeocaipaaGreatDoor
