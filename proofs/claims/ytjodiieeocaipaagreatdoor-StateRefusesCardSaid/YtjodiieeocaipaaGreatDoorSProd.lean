/-
  state: produce.
-/
import Derived.Test.YtjodiieeocaipaaGreatDoorSParts
import Derived.Test.YtjodiieeocaipaaGreatDoorERightW
namespace Go.Proofs.YtjodiieeocaipaaGreatDoor
open Go.RowKit Go.Maps
attribute [local go_sem ↓] ldS_eq stS_eq ldB_eq stB_eq

def doneA (D : DoneM) : Array Value := #[.int .i64 D.base, .int .i64 D.cnt, .bool D.again]
theorem size_done : (Tryz.prog.info? 25).map (·.size) = some 3 := by kernel_rfl
def ldD (v : Value) : Sem Value := Instr.loadAt 25 v
theorem ldD_eq (v : Value) : Instr.loadAt 25 v = ldD v := rfl
def stD (v u : Value) : Sem Unit := Instr.storeAt 25 v u
theorem stD_eq (v u : Value) : Instr.storeAt 25 v u = stD v u := rfl
theorem ldD_bk {w : World} {G : Nat} {a b : Int} {c : Bool} (hb : Bk w G 25 #[.int .i64 a, .int .i64 b, .bool c]) : (ldD (.pointer (some ⟨G, 0, none⟩))).run Tryz.prog w = .ok (.agg #[.int .i64 a, .int .i64 b, .bool c]) w := by
  unfold ldD
  simp only [Instr.loadAt, Instr.sureAddr, Sem.run_bind, Sem.run_pure, Result.andThen_ok, run_loadVar_row w G _ _ _ (0, 0) _ hb Tryz.underlying25 rfl size_done]
theorem stD_row {w : World} {G : Nat} {old : Array Value} (h : Bk w G 25 old) (ho : old.size = 3) (a b : Int) (c : Bool) :
    (stD (.pointer (some ⟨G, 0, none⟩)) (.agg #[.int .i64 a, .int .i64 b, .bool c])).run Tryz.prog w = .ok () (w.setRow G #[.int .i64 a, .int .i64 b, .bool c]) := by
  unfold stD
  simp only [Instr.storeAt, Instr.sureAddr, Sem.run_bind, Sem.run_pure, Result.andThen_ok, run_storeVar_row w G _ _ old #[.int .i64 a, .int .i64 b, .bool c] h size_done (by rw [ho]; rfl) (all_oneCell_toArray (one_all rfl))]
theorem res_done {fn : Func} {p u : Tmp} (h : fn.results = #[.cell p 25, .tmp u]) (tmps : Array Value) (w : World) (G : Nat) (a b : Int) (c : Bool) (hp : tmps.getD p undef = .pointer (some ⟨G, 0, none⟩)) (hb : Bk w G 25 #[.int .i64 a, .int .i64 b, .bool c]) :
    (results fn tmps).run Tryz.prog w = .ok (.tuple #[.agg #[.int .i64 a, .int .i64 b, .bool c], tmps.getD u undef]) w := by
  rw [results_cell_tmp h, hp]
  simp only [asAddr, Sem.run_pure, Result.andThen_ok, run_loadVar_row w G _ _ _ (0, 0) _ hb Tryz.underlying25 rfl size_done]
/-- an error with a number, or none -/
def ErrV (v : Value) (k : Int) : Prop := (k = 0 ∧ v = .nilIface) ∨ (k ≠ 0 ∧ ∃ d, d ≤ 1 ∧ IsErr d v k)
attribute [local go_sem ↓] ldD_eq stD_eq
set_option maxRecDepth 100000 in
theorem wrap_nil (op : ByteArray) (at_ : Int) (w : World) : Calls Tryz.prog 26 #[.string op, .int .i64 at_, .nilIface] w fun e w' => e = .returned .nilIface ∧ w' = w := by
  go_enter Tryz.func26, Tryz.ntmps26
  go_wp2
  go_ret
  exact ⟨rfl, rfl⟩
def batA (b : Bat) (A : Option Addr) (n c : Nat) : Array Value := #[.int .i64 b.time, .int .i64 b.prod, .int .i64 b.seq, .slice A n c]
/-- what produce hands back -/
def ProdR (P : Nat → Prop) (lb db N : Nat) (L : LogM) (d : DedM) (b : Bat) (stripe at_ : Int) (w w' : World) (e : Ending) : Prop :=
  ∃ v, e = .returned (.tuple #[.agg (doneA (prodM ⟨L, d⟩ b stripe at_).2.1), v]) ∧ ErrV v (prodM ⟨L, d⟩ b stripe at_).2.2 ∧
    LogAt w' (Wide P w) lb (prodM ⟨L, d⟩ b stripe at_).1.log ∧ (prodM ⟨L, d⟩ b stripe at_).1.log.Ok (N + 1) ∧ DedAt w' (Wide P w) db (N + 1) (prodM ⟨L, d⟩ b stripe at_).1.ded ∧ DedOk (prodM ⟨L, d⟩ b stripe at_).1.ded ∧ Turned P w w'
def isS (w : World) (g : Nat) : Prop := ∃ old : Array Value, Bk w g 145 old ∧ old.size = 3
theorem isS.lt {w : World} {g : Nat} (h : isS w g) : g < w.heap.size := by
  obtain ⟨old, h1, _⟩ := h
  exact h1.lt
theorem isS_drew (w : World) (g : Nat) : isS w.drew g ↔ isS w g := Iff.rfl
theorem isS.ext {w w' : World} {g : Nat} (h : isS w g) (hb : Below w.heap.size w w') : isS w' g := by
  obtain ⟨old, h1, h2⟩ := h
  exact ⟨old, h1.ext hb, h2⟩
theorem isS_alloc (w : World) (G : Nat) : isS (w.alloc (.cells #[.int .i64 0, .int .i64 0, .int .i64 0] 145)) G ↔ isS w G ∨ G = w.heap.size := by
  constructor
  · intro h
    by_cases hg : G < w.heap.size
    · obtain ⟨old, h1, h2⟩ := h
      exact .inl ⟨old, (Below.heap_alloc w _ G hg).symm.trans h1, h2⟩
    · have := h.lt
      simp at this
      exact .inr (by omega)
  · rintro (h | rfl)
    · obtain ⟨old, h1, h2⟩ := h
      exact ⟨old, h1.alloc _, h2⟩
    · exact ⟨_, Bk.made w _ _, rfl⟩
theorem isS.setBk {w : World} {g : Nat} (h : isS w g) (r : Array Value) : Bk (w.setRow g r) g 145 r := by
  obtain ⟨old, h1, h2⟩ := h
  exact h1.row r
def stS0 (v u : Value) : Sem Unit := stS v u
theorem stS_if (w : World) (G : Nat) (a b c : Int) : (stS (.pointer (some ⟨G, 0, none⟩)) (.agg #[.int .i64 a, .int .i64 b, .int .i64 c])).run Tryz.prog w = @ite _ (isS w G) (Classical.propDecidable _) (.ok () (w.setRow G #[.int .i64 a, .int .i64 b, .int .i64 c])) ((stS0 (.pointer (some ⟨G, 0, none⟩)) (.agg #[.int .i64 a, .int .i64 b, .int .i64 c])).run Tryz.prog w) := by
  split
  · rename_i h
    obtain ⟨old, h1, h2⟩ := h
    exact stS_row h1 h2 a b c
  · rfl
/-- a log without a block of another kind -/
theorem LogAt.but {w : World} {P : Nat → Prop} {lb x : Nat} {L : LogM} (h : LogAt w P lb L) (hx : ∀ t cs, t = 81 ∨ t = 136 ∨ t = 95 ∨ t = 3 → w.heap[x]? ≠ some (.cells cs t (0, 0))) : LogAt w (fun i => P i ∧ i ≠ x) lb L := by
  obtain ⟨⟨ib, h1, ⟨⟨hv, mv, a1, a2, a3, a4, a5⟩, a6⟩⟩, h3⟩ := h
  have own : ∀ {t : TypeId} {sz n : Nat} {v : Value} {xs : List Value}, (t = 81 ∨ t = 136 ∨ t = 95 ∨ t = 3) → w.ownsRow 0 t sz v n xs → ∀ g, v.ownBlock = some g → g ≠ x := by
    intro t sz n v xs ht ho g e e2
    rcases ho.2 with ⟨rfl, _⟩ | ⟨g', cap, cur, rfl, _, hg, _⟩
    · cases e
    · obtain rfl : g' = g := Option.some.inj e
      subst e2
      exact hx t cur ht hg
  exact ⟨⟨ib, h1, ⟨⟨hv, mv, a1, a2, a3, fun g e => ⟨a4 g e, own (by simp) a2 g e⟩, fun g e => ⟨a5 g e, own (by simp) a3 g e⟩⟩, a6, fun e => hx _ _ (by simp) (e ▸ a1)⟩⟩, h3, fun e => hx _ _ (by simp) (e ▸ h1)⟩
theorem DedAt.fine {w : World} {P : Nat → Prop} {db N : Nat} {d : DedM} (h : DedAt w P db N d) : ∃ mb, P db ∧ P mb ∧ DedAt w (fun i => i = db ∨ i = mb) db N d ∧ db < w.heap.size ∧ mb < w.heap.size ∧ (∀ t cs, t ≠ 147 → w.heap[db]? ≠ some (.cells cs t (0, 0))) ∧ (∀ t cs, w.heap[mb]? ≠ some (.cells cs t (0, 0))) := by
  obtain ⟨⟨mb, D, h1, h2, h3, h4⟩, h5⟩ := h
  refine ⟨mb, h5, h4, ⟨⟨mb, D, h1, h2, h3, .inr rfl⟩, .inl rfl⟩, h1.lt, h2.lt, fun t cs ht e => ?_, fun t cs e => ?_⟩
  · unfold Bk at h1
    rw [h1] at e
    injection e with e
    injection e with _ e
    exact ht e.symm
  · obtain ⟨es, clock, hm, _⟩ := h2
    rw [hm] at e
    cases e
theorem rightB_iff (b : Bat) : rightB b = true ↔ (1 ≤ b.vals.length ∧ b.vals.length ≤ 8 ∧ 0 ≤ b.time ∧ b.time ≤ 1125899906842624 ∧ 0 ≤ b.prod ∧ b.prod ≤ 1048576 ∧ 0 ≤ b.seq ∧ b.seq ≤ 1099511627776 ∧ (b.prod = 0 → b.seq = 0) ∧ ∀ s ∈ b.vals, s.size ≤ 60) := by
  obtain ⟨t, p, s, l⟩ := b
  have e : okAll batF (batV ⟨t, p, s, l⟩) = (fitsV (nF 8 0 1125899906842624) (nV t) && (fitsV (nF 4 0 1048576) (nV p) && (fitsV (nF 8 0 1099511627776) (nV s) && (fitsV ⟨3, 0, 1, 8, 60⟩ (lV l) && true)))) := rfl
  have e1 : ∀ (sz hi x : Int), fitsV (nF sz 0 hi) (nV x) = (decide (0 ≤ x) && decide (x ≤ hi)) := by
    intro sz hi x
    show (decide (0 ≤ x) && decide (x ≤ hi) && true && true) = _
    rw [Bool.and_true, Bool.and_true]
  have e2 : fitsV ⟨3, 0, 1, 8, 60⟩ (lV l) = (decide (1 ≤ (l.length : Int)) && decide ((l.length : Int) ≤ 8) && l.all (fun s => decide ((s.size : Int) ≤ 60))) := by
    show (decide (1 ≤ (l.length : Int)) && decide ((l.length : Int) ≤ 8) && l.all (fun s => decide ((s.size : Int) ≤ 60)) && true && true) = _
    rw [Bool.and_true, Bool.and_true]
  unfold rightB
  rw [e, e1, e1, e1, e2]
  simp only [Bool.and_eq_true, Bool.or_eq_true, decide_eq_true_iff, List.all_eq_true, and_true]
  constructor
  · rintro ⟨⟨⟨h1, h2⟩, ⟨h3, h4⟩, ⟨h5, h6⟩, ⟨h7, h8⟩, h9⟩, h10⟩
    exact ⟨by omega, by omega, h1, h2, h3, h4, h5, h6, fun h => by rcases h10 with h10 | h10 <;> omega, fun s hs => by have := h9 s hs; omega⟩
  · rintro ⟨h1, h2, h3, h4, h5, h6, h7, h8, h9, h10⟩
    refine ⟨⟨⟨h3, h4⟩, ⟨h5, h6⟩, ⟨h7, h8⟩, ⟨by omega, by omega⟩, fun s hs => by have := h10 s hs; omega⟩, ?_⟩
    by_cases h : p = 0
    · exact .inr (h9 h)
    · exact .inl (by omega)
/-! ### what the paths end in -/
theorem prodM_bad {L : LogM} {d : DedM} {b : Bat} {stripe at_ k : Int} {x : SentM} {ag : Bool} (h : askD d b.prod b.seq = (x, ag, k)) (hk : k ≠ 0) : prodM ⟨L, d⟩ b stripe at_ = (⟨L, d⟩, noDone, k) := by
  unfold prodM
  rw [h]
  simp [hk]
theorem prodM_again {L : LogM} {d : DedM} {b : Bat} {stripe at_ : Int} {x : SentM} (h : askD d b.prod b.seq = (x, true, 0)) : prodM ⟨L, d⟩ b stripe at_ = (⟨L, d⟩, ⟨x.base, x.cnt, true⟩, 0) := by
  unfold prodM
  rw [h]
  simp
theorem prodM_full {L : LogM} {d : DedM} {b : Bat} {stripe at_ k : Int} {x : SentM} (h : askD d b.prod b.seq = (x, false, 0)) (hk : addBad L b.vals.length b.time stripe at_ = k) (h0 : k ≠ 0) : prodM ⟨L, d⟩ b stripe at_ = (⟨L, d⟩, noDone, k) := by
  unfold prodM
  rw [h]
  simp [hk, h0]
theorem prodM_new {L : LogM} {d : DedM} {b : Bat} {stripe at_ : Int} {x : SentM} (h : askD d b.prod b.seq = (x, false, 0)) (hk : addBad L b.vals.length b.time stripe at_ = 0) : prodM ⟨L, d⟩ b stripe at_ = (⟨addLog L b.vals.length b.time stripe at_, noteD d b.prod ⟨b.seq, L.next, b.vals.length⟩⟩, ⟨L.next, b.vals.length, false⟩, 0) := by
  unfold prodM
  rw [h]
  simp [hk]
theorem noteD_ok2 {d : DedM} (hd : DedOk d) (p : Int) (x : SentM) (hx : 0 ≤ x.seq ∧ x.seq ≤ 1099511627776) : DedOk (noteD d p x) := by
  intro q y hq
  unfold noteD at hq
  split at hq
  · exact hd q y hq
  · dsimp only at hq
    split at hq
    · cases hq; exact hx
    · exact hd q y hq
theorem prodR_end {P : Nat → Prop} {lb db N : Nat} {L : LogM} {d : DedM} {b : Bat} {stripe at_ : Int} {w wc w4 : World} {M' : PartM} {D : DoneM} {k : Int} (hp : prodM ⟨L, d⟩ b stripe at_ = (M', D, k)) {v : Value} (hv : ErrV v k)
    (hl : LogAt w4 (Wide P wc) lb M'.log) (hlo : M'.log.Ok (N + 1)) (hd : DedAt w4 (Wide P wc) db (N + 1) M'.ded) (hdo : DedOk M'.ded) (_hwc : w.heap.size ≤ wc.heap.size) {g : Nat} (hg : w.heap.size ≤ g) (hgc : g < wc.heap.size) (hgp : ¬ P g) (hT : Turned P w w4) (r : Array Value) :
    ProdR P lb db N L d b stripe at_ w (w4.setRow g r) (.returned (.tuple #[.agg (doneA D), v])) := by
  unfold ProdR
  rw [hp]
  have hgr : Turned (fun i => i = g) w4 (w4.setRow g r) := Turned.of_grown (grown_row w4 g r) (fun j e => (Option.some.inj e).symm)
  have hno : ∀ i, i < w4.heap.size → Wide P wc i → ¬ i = g := fun i _ hi e => by
    subst e
    rcases hi with hi | hi
    · exact hgp hi
    · omega
  have hm : ∀ i, i < (w4.setRow g r).heap.size → Wide P wc i → Wide P w i := fun i _ hi => hi.elim .inl (fun h => .inr (by omega))
  refine ⟨v, rfl, hv, (hl.turned hgr hno).more hm, hlo, (hd.turned hgr hno).more hm, hdo, ?_⟩
  exact hT.then_grown (grown_row w4 g r) (fun j e => .inr (by rw [← Option.some.inj e]; exact hg))
/-- what Add hands back -/
def AddR (P : Nat → Prop) (lb : Nat) (L : LogM) (n time stripe ent : Int) (w w' : World) (s v : Value) : Prop := ∃ base : Int, s = .int .i64 base ∧
  ((addBad L n time stripe ent = 0 ∧ base = L.next ∧ v = .nilIface ∧ LogAt w' (Wide P w) lb (addLog L n time stripe ent)) ∨ (addBad L n time stripe ent = 13 ∧ IsErr 1 v 13 ∧ LogAt w' (Wide P w) lb L)) ∧ Turned P w w'
theorem logAdd_r {P : Nat → Prop} {lb : Nat} {L : LogM} {N : Nat} {w : World} (h : LogAt w P lb L) (hok : L.Ok N) (hN : N ≤ 1000000) (n time stripe ent : Int) (ha : addOk n time stripe ent = true) :
    Calls Tryz.prog 85 #[.pointer (some ⟨lb, 0, none⟩), .int .i64 n, .int .i64 time, .int .i64 stripe, .int .i64 ent] w fun e w' => ∃ (base : Int) (v : Value), e = .returned (.tuple #[.int .i64 base, v]) ∧ AddR P lb L n time stripe ent w w' (.int .i64 base) v :=
  (logAdd_any h hok hN n time stripe ent ha).mono fun e w' => by
    rintro ⟨base, v, h1, h2, h3⟩
    exact ⟨base, v, h1, base, rfl, h2, h3⟩
theorem AddR.turned {P : Nat → Prop} {lb : Nat} {L : LogM} {n time stripe ent : Int} {w w' : World} {s v : Value} (h : AddR P lb L n time stripe ent w w' s v) : Turned P w w' := by
  obtain ⟨base, _, _, h3⟩ := h
  exact h3
theorem AddR.from {P : Nat → Prop} {lb : Nat} {L : LogM} {n time stripe ent : Int} {w w1 w' : World} {s v : Value} (h : AddR P lb L n time stripe ent w w' s v) (hb : w1.heap = w.heap ∧ w1.os = w.os ∧ w1.tape = w.tape ∧ w1.output = w.output) : AddR P lb L n time stripe ent w1 w' s v := by
  obtain ⟨base, h1, h2, h3⟩ := h
  refine ⟨base, h1, ?_, ⟨h3.os.trans hb.2.1.symm, h3.tape.trans hb.2.2.1.symm, h3.output.trans hb.2.2.2.symm, by rw [hb.1]; exact h3.size, fun i hi => by rw [hb.1] at hi ⊢; exact h3.block i hi⟩⟩
  have : Wide P w1 = Wide P w := by unfold Wide; rw [hb.1]
  rw [this]
  exact h2
attribute [local go_sem] isS_drew isS_alloc stS_if
set_option maxRecDepth 100000 in
set_option maxHeartbeats 4000000 in
theorem produce_any {P : Nat → Prop} {lb db N pg k2 : Nat} {L : LogM} {d : DedM} {w : World} (hl : LogAt w P lb L) (hlo : L.Ok N) (hd : DedAt w P db N d) (hdo : DedOk d) (hN : N ≤ 900000) (hPl : ∀ i, P i → i < w.heap.size) (hpg : ¬ P pg) (hc0 : w.cell? ⟨pg, k2, none⟩ = some (.pointer (some ⟨lb, 0, none⟩))) (hc1 : w.cell? ⟨pg, k2 + 1, none⟩ = some (.pointer (some ⟨db, 0, none⟩)))
    (b : Bat) (A : Option Addr) (n c : Nat) (hr : RdT w A n c b.vals) (hb : rightB b = true) (stripe at_ : Int) (hs : 0 ≤ stripe) (ha : 0 ≤ at_) :
    Calls Tryz.prog 54 #[.pointer (some ⟨pg, k2, none⟩), .agg #[.int .i64 b.time, .int .i64 b.prod, .int .i64 b.seq, .slice A n c], .int .i64 stripe, .int .i64 at_] w fun e w' => ProdR P lb db N L d b stripe at_ w w' e := by
  have hbt := (below_new w (.cells #[.int .i64 b.time, .int .i64 b.prod, .int .i64 b.seq, .slice A n c] 32)).trans (below_le (below_new w (.cells #[.int .i64 b.time, .int .i64 b.prod, .int .i64 b.seq, .slice A n c] 32)).size (below_new _ (.cells #[.int .i64 0, .int .i64 0, .bool false] 25)))
  have hkb := (Bk.made w 32 #[.int .i64 b.time, .int .i64 b.prod, .int .i64 b.seq, .slice A n c]).alloc (.cells #[.int .i64 0, .int .i64 0, .bool false] 25)
  have hkd := Bk.made_at (w.alloc (.cells #[.int .i64 b.time, .int .i64 b.prod, .int .i64 b.seq, .slice A n c] 32)) (w.heap.size + 1) 25 #[.int .i64 0, .int .i64 0, .bool false] (by simp)
  have hrb := (rightB_iff b).1 hb
  have hlen := hr.len
  have HKB := Lib.hid hkb
  have HKD := Lib.hid hkd
  have HB := Lib.hid hbt
  have HL := Lib.hid (hl.ext hbt)
  have HD := Lib.hid (hd.ext hbt)
  have hpl := cell_lt hc0
  have HC0 := Lib.hid ((hbt.cell (p := ⟨pg, k2, none⟩) hpl).trans hc0)
  have HC1 := Lib.hid ((hbt.cell (p := ⟨pg, k2 + 1, none⟩) hpl).trans hc1)
  have Hrb := Lib.hid hrb
  have Hlen := Lib.hid hlen
  have HP := Lib.hid hPl
  clear hbt hkb hkd hl hd hc0 hc1 hr hrb hb hlen hPl
  go_enter Tryz.func54, Tryz.ntmps54
  go_upto_region 1 with fail
  generalize ((w.alloc (.cells #[.int .i64 b.time, .int .i64 b.prod, .int .i64 b.seq, .slice A n c] 32)).alloc (.cells #[.int .i64 0, .int .i64 0, .bool false] 25)) = W at HKB HKD HB HL HD HC0 HC1 ⊢
  go_cut [10, 11, 12] from 13 to 72 (fun s10 s11 s12 wx => ∃ (x : SentM) (ag : Bool) (v : Value) (g10 : Nat), s10 = .pointer (some ⟨g10, 0, none⟩) ∧ s11 = .bool ag ∧ s12 = v ∧ ((askD d b.prod b.seq = (x, ag, 0) ∧ v = .nilIface) ∨ (askD d b.prod b.seq = (x, ag, 12) ∧ IsErr 1 v 12)) ∧ Bk wx g10 145 #[.int .i64 x.seq, .int .i64 x.base, .int .i64 x.cnt] ∧ Below W.heap.size W wx)
  case first =>
    have FS : Hid (∀ w', Below W.heap.size W w' → (Below W.heap.size W w' ∧ w'.cell? ⟨pg, k2 + 1, none⟩ = some (.pointer (some ⟨db, 0, none⟩)) ∧ w'.cell? ⟨w.heap.size, 1, none⟩ = some (.int .i64 b.prod) ∧ w'.cell? ⟨w.heap.size, 2, none⟩ = some (.int .i64 b.seq))) := fun w' hb => ⟨hb, (hb.cell (p := ⟨pg, k2 + 1, none⟩) (cell_lt HC1.out)).trans HC1.out, (HKB.out.ext hb).cell 1, (HKB.out.ext hb).cell 2⟩
    have KC : Hid (∀ (w' w'' : World) (R : Prop), Below W.heap.size W w' ∧ R → Below w'.heap.size w' w'' → Below W.heap.size W w'') := fun w' w'' R h hb => h.1.trans (below_le h.1.size hb)
    have KA : Hid (∀ (w' : World) (o : Obj) (R : Prop), Below W.heap.size W w' ∧ R → Below W.heap.size W (w'.alloc o)) := fun w' o R h => h.1.alloc h.1.size o
    have KD : Hid (∀ (w' : World) (o : Obj) (R : Prop), Below W.heap.size W w'.drew ∧ R → Below W.heap.size W (w'.alloc o).drew) := fun w' o R h => h.1.alloc h.1.size o
    have KR : Hid (∀ (w' : World) (g : Nat) (r : Array Value) (R : Prop), Below W.heap.size W w' ∧ R → W.heap.size ≤ g → Below W.heap.size W (w'.setRow g r)) := fun w' g r R h hg => below_row h.1 h.1.size hg r
    have HA : Hid (∀ (w' : World) (R : Prop), Below W.heap.size W w' ∧ R → Calls Tryz.prog 84 #[.pointer (some ⟨db, 0, none⟩), .int .i64 b.prod, .int .i64 b.seq] w' fun e w'' => AskR d b.prod b.seq w' w'' e) := fun w' R h => dedAsk_any (HD.out.ext h.1) hdo b.prod b.seq ⟨Hrb.out.2.2.2.2.1, Hrb.out.2.2.2.2.2.1⟩ ⟨Hrb.out.2.2.2.2.2.2.1, Hrb.out.2.2.2.2.2.2.2.1⟩
    go_region_held3 (fun w' => Below W.heap.size W w' ∧ w'.cell? ⟨pg, k2 + 1, none⟩ = some (.pointer (some ⟨db, 0, none⟩)) ∧ w'.cell? ⟨w.heap.size, 1, none⟩ = some (.int .i64 b.prod) ∧ w'.cell? ⟨w.heap.size, 2, none⟩ = some (.int .i64 b.seq)) (first | exact FS.out _ (below_drew1 (Below.refl _ _)) | exact FS.out _ (KA.out _ _ _ (by assumption)) | exact FS.out _ (KD.out _ _ _ (by assumption)) | exact FS.out _ (KR.out _ _ _ _ (by assumption) (by first | exact Nat.le_refl _ | omega)) | exact FS.out _ (KC.out _ _ _ (by assumption) hb4)) (first | (go_at_call 84; go_loud (with_reducible refine (HA.out _ _ (by assumption)).mono ?_); go_loud (rintro er w4 ⟨x, ag, v, rfl, hx, hb4⟩); go_loud (have Hx := Lib.hid hx); go_loud (clear hx); go_loud (have hI4 : ∀ G, isS _ G → isS w4 G := fun G h => h.ext hb4); go_loud (have hz4 : W.heap.size ≤ w4.heap.size := (KC.out _ _ _ (by assumption) hb4).size)) | fail)
    all_goals
      go_wp2_with fail
      go_meet
      exact ⟨x, ag, v, _, rfl, rfl, rfl, Hx.out, isS.setBk (by first | (simp [isS_alloc]; done) | (simp [isS_alloc, hI4]; done) | (simp [isS_alloc, isS_drew, hI4]; done)) _, (‹Below W.heap.size W _ ∧ _›).1⟩
  case rest =>
    obtain ⟨x, ag, v, g10, rfl, rfl, rfl, hcase, hx, hbx⟩ := hcut
    have hbw := HB.out.trans (below_le HB.out.size hbx)
    have hwz : w.heap.size + 2 ≤ W.heap.size := by have := HKD.out.lt; omega
    have hWz := hbx.size
    have hTw : Turned P w wc := Turned.of_below hbw
    have hl3 : LogAt wc P lb L := HL.out.turned (Q := fun _ => False) (Turned.of_below hbx) (fun _ _ _ => id)
    have hd3 : DedAt wc P db N d := HD.out.turned (Q := fun _ => False) (Turned.of_below hbx) (fun _ _ _ => id)
    have hkd3 := HKD.out.ext hbx
    have hkb3 := HKB.out.ext hbx
    have hc03 : wc.cell? ⟨pg, k2, none⟩ = some (.pointer (some ⟨lb, 0, none⟩)) := (hbx.cell (p := ⟨pg, k2, none⟩) (cell_lt HC0.out)).trans HC0.out
    have hc13 : wc.cell? ⟨pg, k2 + 1, none⟩ = some (.pointer (some ⟨db, 0, none⟩)) := (hbx.cell (p := ⟨pg, k2 + 1, none⟩) (cell_lt HC1.out)).trans HC1.out
    have HG : Hid (¬ P (w.heap.size + 1) ∧ ¬ P w.heap.size) := ⟨fun h => by have := HP.out _ h; omega, fun h => by have := HP.out _ h; omega⟩
    have HTw := Lib.hid hTw
    have HL3 := Lib.hid hl3
    have HD3 := Lib.hid hd3
    have HKD3 := Lib.hid hkd3
    have HKB3 := Lib.hid hkb3
    have HC03 := Lib.hid hc03
    have HC13 := Lib.hid hc13
    have HX := Lib.hid hx
    have HZ := Lib.hid (show w.heap.size ≤ wc.heap.size ∧ w.heap.size + 1 < wc.heap.size by omega)
    clear hbw hwz hWz hTw hl3 hd3 hkd3 hkb3 hc03 hc13 hx hbx HKB HKD HB HL HD HC0 HC1
    have hwl : ∀ i, i < wc.heap.size → P i → Wide P wc i := fun i _ h => .inl h
    have HWL := Lib.hid hwl
    clear hwl
    rcases hcase with ⟨hask, rfl⟩ | ⟨hask, he⟩
    · cases ag with
      | true =>
        have hp := prodM_again (L := L) (stripe := stripe) (at_ := at_) hask
        have Hp := Lib.hid hp
        have d1 : wc.cell? ⟨g10, 1, none⟩ = some (.int .i64 x.base) := HX.out.cell 1
        have d2 : wc.cell? ⟨g10, 2, none⟩ = some (.int .i64 x.cnt) := HX.out.cell 2
        have hst := stD_row HKD3.out rfl x.base x.cnt true
        clear hask hp
        go_wp2_with fail
        refine bodyPost_ret (res_done (p := 8) (u := 9) rfl _ _ (w.heap.size + 1) x.base x.cnt true rfl (Bk.row HKD3.out _)) rfl ?_
        exact prodR_end Hp.out (v := .nilIface) (.inl ⟨rfl, rfl⟩) (HL3.out.more HWL.out) (hlo.mono (Nat.le_succ _)) ((HD3.out.more HWL.out).mono (Nat.le_succ _)) hdo HZ.out.1 (Nat.le_succ _) HZ.out.2 HG.out.1 HTw.out _
      | false =>
        obtain ⟨mb, p1, p2, hdf, hdl, hml, hdx, hmx⟩ := HD3.out.fine
        have hl1 : LogAt wc (fun i => (P i ∧ i ≠ db) ∧ i ≠ mb) lb L := (HL3.out.but (x := db) (fun t cs ht => hdx t cs (by rcases ht with rfl | rfl | rfl | rfl <;> decide))).but (x := mb) (fun t cs _ => hmx t cs)
        have hnl := Hlen.out
        have hrb := Hrb.out
        have hok : addOk (b.vals.length : Int) b.time stripe at_ = true := by
          unfold addOk
          simp only [Bool.and_eq_true, decide_eq_true_eq]
          omega
        have c3 : wc.cell? ⟨w.heap.size, 3, none⟩ = some (.slice A n c) := HKB3.out.cell 3
        have hbd := below_drew1 (Below.refl wc.heap.size wc)
        have HAD := Lib.hid (logAdd_r (hl1.ext hbd) hlo (by omega) (b.vals.length : Int) b.time stripe at_ hok)
        rw [hnl] at HAD
        have HDF := Lib.hid hdf
        have HPP := Lib.hid (And.intro p1 p2)
        have HDM := Lib.hid (And.intro hdl hml)
        have Hask := Lib.hid hask
        have b0 : wc.cell? ⟨w.heap.size, 0, none⟩ = some (.int .i64 b.time) := HKB3.out.cell 0
        have e0 : wc.cell? ⟨pg, k2, none⟩ = some (.pointer (some ⟨lb, 0, none⟩)) := HC03.out
        clear p1 p2 hdf hdl hml hdx hmx hl1 hnl hrb hok hask hbd
        go_upto_region 7 with fail
        go_cut [12, 14] from 15 to 72 (fun s12 s14 wx => AddR (fun i => (P i ∧ i ≠ db) ∧ i ≠ mb) lb L (n : Int) b.time stripe at_ wc wx s14 s12)
        case first =>
          have FS : Hid (∀ w', Turned (fun i => (P i ∧ i ≠ db) ∧ i ≠ mb) wc w' → Turned (fun i => (P i ∧ i ≠ db) ∧ i ≠ mb) wc w' ∧ w'.cell? ⟨pg, k2, none⟩ = some (.pointer (some ⟨lb, 0, none⟩)) ∧ w'.cell? ⟨w.heap.size, 0, none⟩ = some (.int .i64 b.time)) := fun w' ht => ⟨ht, (ht.cell (p := ⟨pg, k2, none⟩) (cell_lt HC03.out) (fun h => hpg h.1.1)).trans HC03.out, ((HKB3.out.turned ht (fun h => HG.out.2 h.1.1)).cell 0)⟩
          clear e0 b0 c3
          go_region_held3 (fun w' => Turned (fun i => (P i ∧ i ≠ db) ∧ i ≠ mb) wc w' ∧ w'.cell? ⟨pg, k2, none⟩ = some (.pointer (some ⟨lb, 0, none⟩)) ∧ w'.cell? ⟨w.heap.size, 0, none⟩ = some (.int .i64 b.time)) (first | exact FS.out _ (Turned.of_below (below_drew1 (Below.refl _ _))) | exact FS.out _ hb4) (first | (go_at_call 85; with_reducible refine HAD.out.mono ?_; rintro er w4 ⟨base, v, rfl, ha4⟩; have ha5 := AddR.from (w1 := wc) ha4 ⟨rfl, rfl, rfl, rfl⟩; clear ha4; have HA5 := Lib.hid ha5; clear ha5; have hb4 := HA5.out.turned) | fail)
          all_goals
            go_wp2_with fail
            go_meet
            exact HA5.out
        case rest =>
          obtain ⟨base, rfl, hadd, hT4⟩ := hcut
          have hTw4 : Turned P w wc := HTw.out.trans hT4 (fun i _ h => h.1.1)
          have hkd4 := HKD3.out.turned hT4 (fun h => HG.out.1 h.1.1)
          have hkb4 := HKB3.out.turned hT4 (fun h => HG.out.2 h.1.1)
          have hc14 : wc.cell? ⟨pg, k2 + 1, none⟩ = some (.pointer (some ⟨db, 0, none⟩)) := (hT4.cell (p := ⟨pg, k2 + 1, none⟩) (cell_lt HC13.out) (fun h => hpg h.1.1)).trans HC13.out
          have hd4 := HDF.out.turned hT4 (fun i _ h h2 => by rcases h with rfl | rfl; exact h2.1.2 rfl; exact h2.2 rfl)
          have HTw4 := Lib.hid hTw4
          have HKD4 := Lib.hid hkd4
          have HKB4 := Lib.hid hkb4
          have HC14 := Lib.hid hc14
          have HD4 := Lib.hid hd4
          have HZ4 := Lib.hid hT4.size
          clear hTw4 hkd4 hkb4 hc14 hd4 hT4 HAD HX HKB3 HC13 HC03 c3 b0 e0 HWL HKD3
          rcases hadd with ⟨hz0, rfl, rfl, hl4⟩ | ⟨hz0, he, hl4⟩
          · have hnl := Hlen.out
            have Hp := Lib.hid (prodM_new (L := L) (d := d) (b := b) (stripe := stripe) (at_ := at_) Hask.out (by rw [hnl]; exact hz0))
            have HLO := Lib.hid (addLog_ok hlo hz0)
            have HL4 := Lib.hid hl4
            have hbd := below_drew1 (Below.refl wc.heap.size wc)
            have HND := Lib.hid (dedNote_any (HD4.out.ext hbd) (by omega) b.prod ⟨Hrb.out.2.2.2.2.1, Hrb.out.2.2.2.2.2.1⟩ ⟨b.seq, L.next, (n : Int)⟩)
            have b1 : wc.cell? ⟨w.heap.size, 1, none⟩ = some (.int .i64 b.prod) := HKB4.out.cell 1
            have b2 : wc.cell? ⟨w.heap.size, 2, none⟩ = some (.int .i64 b.seq) := HKB4.out.cell 2
            have e1 : wc.cell? ⟨pg, k2 + 1, none⟩ = some (.pointer (some ⟨db, 0, none⟩)) := HC14.out
            clear hz0 hl4 hnl hbd
            go_upto_region 10 with fail
            go_still_tail 11, (by kernel_rfl)
            change wpList _ _ _ _ _ wc.drew
            clear e1 b1 b2
            go_wp2_with fail
            with_reducible refine HND.out.mono ?_
            rintro er w5 ⟨rfl, hd5, ht5⟩
            have ht5' : Turned (fun i => i = db ∨ i = mb) wc w5 := ⟨ht5.os, ht5.tape, ht5.output, ht5.size, ht5.block⟩
            have hk5 := HKD4.out.turned ht5' (fun h => by rcases h with h | h; exact HG.out.1 (h ▸ HPP.out.1); exact HG.out.1 (h ▸ HPP.out.2))
            have hst := stD_row hk5 rfl L.next n false
            have HK5 := Lib.hid hk5
            have HD5 := Lib.hid hd5
            have HT5 := Lib.hid ht5'
            clear hk5 hd5 ht5 ht5' HND
            go_wp2_with fail
            refine bodyPost_ret (res_done (p := 8) (u := 9) rfl _ _ (w.heap.size + 1) L.next n false rfl (Bk.row HK5.out _)) rfl ?_
            have hnl := Hlen.out
            have Hp' := Hp.out
            rw [hnl] at Hp'
            refine prodR_end Hp' (v := .nilIface) (.inl ⟨rfl, rfl⟩) (w4 := w5) ?_ HLO.out ?_ (noteD_ok2 hdo _ _ ⟨Hrb.out.2.2.2.2.2.2.1, Hrb.out.2.2.2.2.2.2.2.1⟩) HZ.out.1 (Nat.le_succ _) HZ.out.2 HG.out.1 ?_ _
            · refine (HL4.out.turned HT5.out ?_).more (fun i _ h => h.elim (fun h => .inl h.1.1) .inr)
              have hdm := HDM.out
              rintro i _ (h | h) (rfl | rfl)
              · exact h.1.2 rfl
              · exact h.2 rfl
              · omega
              · omega
            · refine HD5.out.more (fun i _ h => ?_)
              rcases h with (rfl | rfl) | h
              · exact .inl HPP.out.1
              · exact .inl HPP.out.2
              · exact .inr (Nat.le_trans HZ4.out h)
            · exact HTw4.out.trans HT5.out (fun i _ h => by rcases h with rfl | rfl; exact HPP.out.1; exact HPP.out.2)
          · have hnl := Hlen.out
            have Hp := Lib.hid (prodM_full (L := L) (d := d) (b := b) (stripe := stripe) (at_ := at_) (k := 13) Hask.out (by rw [hnl]; exact hz0) (by decide))
            have HL4 := Lib.hid hl4
            have hne := he.ne
            have hng := he.guardN 54
            have hst := stD_row HKD4.out rfl 0 0 false
            have HE := Lib.hid he
            clear hz0 hl4 hnl he
            go_wp2_with fail
            refine bodyPost_ret (res_done (p := 8) (u := 9) rfl _ _ (w.heap.size + 1) 0 0 false rfl (Bk.row HKD4.out _)) rfl ?_
            exact prodR_end Hp.out (.inr ⟨by decide, 1, Nat.le_refl _, HE.out⟩) (HL4.out.more (fun i _ h => h.elim (fun h => .inl h.1.1) .inr)) (hlo.mono (Nat.le_succ _)) ((HD4.out.more (fun i _ h => by rcases h with rfl | rfl; exact .inl HPP.out.1; exact .inl HPP.out.2)).mono (Nat.le_succ _)) hdo HZ.out.1 (Nat.le_succ _) HZ.out.2 HG.out.1 HTw4.out _
    · have hp := prodM_bad (L := L) (stripe := stripe) (at_ := at_) hask (by decide)
      have Hp := Lib.hid hp
      have hne := he.ne
      have hng := he.guardN 28
      have hst := stD_row HKD3.out rfl 0 0 false
      have HE := Lib.hid he
      clear hask hp he
      go_wp2_with fail
      refine bodyPost_ret (res_done (p := 8) (u := 9) rfl _ _ (w.heap.size + 1) 0 0 false rfl (Bk.row HKD3.out _)) rfl ?_
      exact prodR_end Hp.out (.inr ⟨by decide, 1, Nat.le_refl _, HE.out⟩) (HL3.out.more HWL.out) (hlo.mono (Nat.le_succ _)) ((HD3.out.more HWL.out).mono (Nat.le_succ _)) hdo HZ.out.1 (Nat.le_succ _) HZ.out.2 HG.out.1 HTw.out _
end Go.Proofs.YtjodiieeocaipaaGreatDoor
