import Derived.Test.YtjodiieeocaipaaGreatDoorSTwinz
import Derived.Test.YtjodiieeocaipaaGreatDoorECame
import Derived.Deep.CutRange
/-
  StateRefuses: what the model says of refusals; a State alone in a law's hands.
-/
namespace Go.Proofs.YtjodiieeocaipaaGreatDoor
open Go.RowKit Go.Maps Go.ChangeShapes Go.WideShapes Go.ChangeAt

theorem prod_same {P P' : PartM} {b : Bat} {st at_ : Int} {D : DoneM} {k : Int} (h : prodM P b st at_ = (P', D, k)) : (k ≠ 0 → P' = P ∧ D = noDone) ∧ (k = 0 → D.again = true → P' = P) := by
  unfold prodM at h
  rcases askD P.ded b.prod b.seq with ⟨x, again, bad⟩
  dsimp only at h
  split at h
  · rename_i hb
    cases h
    exact ⟨fun _ => ⟨rfl, rfl⟩, fun h => absurd h hb⟩
  · split at h
    · cases h
      exact ⟨fun h => absurd rfl h, fun _ _ => rfl⟩
    · split at h
      · rename_i he
        cases h
        exact ⟨fun _ => ⟨rfl, rfl⟩, fun h => absurd h he⟩
      · cases h
        exact ⟨fun h => absurd rfl h, fun _ h => absurd h Bool.false_ne_true⟩
theorem setP_same {T : TopM} (hs : T.Pairwise (fun a b => bytesBefore (namL a.1) (namL b.1) = true)) {n : ByteArray} {k : Int} {P : PartM} (hp : partT T n k = some P) : setT T n k P = T := by
  unfold setT
  have h : ∀ t ∈ T, (if t.1 = n then (t.1, t.2.set k.toNat P) else t) = id t := by
    intro t ht
    split
    · rename_i e
      have hf := find_mem hs ht
      rw [e] at hf
      unfold partT at hp
      split at hp
      · rw [hf] at hp
        have hp : t.2[k.toNat]? = some P := hp
        obtain ⟨hl, he⟩ := List.getElem?_eq_some_iff.1 hp
        show (t.1, t.2.set k.toNat P) = t
        rw [← he, List.set_getElem_self]
      · cases hp
    · rfl
  rw [List.map_congr_left h, List.map_id]
/-- what is refused changes nothing and says nothing; what is done again changes nothing -/
theorem apply_same {M M' : StM} {e : Ent} {st at_ : Int} {D : DoneM} {k : Int} (hs : M.top.Pairwise (fun a b => bytesBefore (namL a.1) (namL b.1) = true)) (h : applyM M e st at_ = (M', D, k)) : (k ≠ 0 → M' = M ∧ D = noDone) ∧ (k = 0 → D.again = true → M' = M) := by
  unfold applyM at h
  split at h
  · unfold applyR at h
    split at h
    · split at h
      · cases h
        exact ⟨fun _ => ⟨rfl, rfl⟩, fun _ ha => absurd ha (by decide)⟩
      · split at h
        · cases h
          exact ⟨fun _ => ⟨rfl, rfl⟩, fun _ ha => absurd ha (by decide)⟩
        · cases h
          exact ⟨fun h => absurd rfl h, fun _ ha => absurd ha (by decide)⟩
    · split at h
      · split at h
        · cases h
          exact ⟨fun h => absurd rfl h, fun _ ha => absurd ha (by decide)⟩
        · cases h
          exact ⟨fun _ => ⟨rfl, rfl⟩, fun _ ha => absurd ha (by decide)⟩
      · split at h
        · cases h
          exact ⟨fun _ => ⟨rfl, rfl⟩, fun _ ha => absurd ha (by decide)⟩
        · rename_i P hP
          split at h
          · split at h
            · cases h
              exact ⟨fun h => absurd rfl h, fun _ ha => absurd ha (by decide)⟩
            · cases h
              exact ⟨fun _ => ⟨rfl, rfl⟩, fun _ ha => absurd ha (by decide)⟩
          · split at h
            · split at h
              · cases h
                exact ⟨fun h => absurd rfl h, fun _ ha => absurd ha (by decide)⟩
              · cases h
                exact ⟨fun _ => ⟨rfl, rfl⟩, fun _ ha => absurd ha (by decide)⟩
            · rcases hq : prodM P e.bat st at_ with ⟨P', D', k'⟩
              rw [hq] at h
              cases h
              obtain ⟨h1, h2⟩ := prod_same hq
              refine ⟨fun hk => ?_, fun hk ha => ?_⟩
              · obtain ⟨rfl, rfl⟩ := h1 hk
                refine ⟨?_, rfl⟩
                show (⟨setT M.top e.topic e.part P', M.grp⟩ : StM) = M
                rw [setP_same hs hP]
              · obtain rfl := h2 hk ha
                show (⟨setT M.top e.topic e.part P', M.grp⟩ : StM) = M
                rw [setP_same hs hP]
  · cases h
    exact ⟨fun _ => ⟨rfl, rfl⟩, fun _ ha => absurd ha (by decide)⟩
/-- a State alone, after so many deeds -/
def S1 (w wr : World) (s : Nat) (l : Nat → Dd) (k : Nat) : Prop := ∃ O, SO w wr s k (runM l 0 newSt k) O ∧ Below w.heap.size w wr
theorem S1.below {w wr : World} {s : Nat} {l : Nat → Dd} {k : Nat} (h : S1 w wr s l k) : Below w.heap.size w wr := by
  obtain ⟨_, _, h⟩ := h
  exact h
theorem s1_new (w : World) (l : Nat → Dd) : Calls Tryz.prog 10 #[] w fun e w' => ∃ s, e = .returned (.pointer (some ⟨s, 0, none⟩)) ∧ S1 w w' s l 0 :=
  (so_new w w (Nat.le_refl _)).mono fun _ _ ⟨s, O, h1, h2, _, h3⟩ => ⟨s, h1, O, h2, h3⟩
theorem S1.step {w wr w3 : World} {s : Nat} {l : Nat → Dd} {k : Nat} (h : S1 w wr s l k) (hk : k < 20) (hb : Below wr.heap.size wr w3) (A : Option Addr) (n c : Nat) (hrd : RdT w3 A n c (entOf (l k)).bat.vals) :
    Calls Tryz.prog 11 #[.pointer (some ⟨s, 0, none⟩), .agg #[.int .i64 (entOf (l k)).kind, .string (entOf (l k)).topic, .string (entOf (l k)).group, .int .i64 (entOf (l k)).part, .int .i64 (entOf (l k)).parts, .int .i64 (entOf (l k)).first, .int .i64 (entOf (l k)).off, .int .i64 (entOf (l k)).bat.time, .int .i64 (entOf (l k)).bat.prod, .int .i64 (entOf (l k)).bat.seq, .slice A n c], .int .i64 k, .int .i64 0] w3
      fun er w' => ∃ a v, er = .returned (.tuple #[a, v]) ∧ S1 w w' s l (k + 1) := by
  obtain ⟨O, h1, h2⟩ := h
  have h4 := h2.trans (below_le h2.size hb)
  rcases hM : applyM (runM l 0 newSt k) (entOf (l k)) k 0 with ⟨M', D, kd⟩
  refine (so_step (h1.ext hb) h4.size (by omega) (entOf (l k)) A n c hrd k 0 hM).mono ?_
  rintro er w' ⟨v, O', rfl, _, a1, a2, a3⟩
  have e : runM l 0 newSt (k + 1) = M' := by show (applyM (runM l 0 newSt k) (entOf (l k)) (0 + (k : Int)) 0).1 = _; rw [Int.zero_add, hM]
  refine ⟨_, v, rfl, O', ?_, a3.below h4 h4.size (fun i hi => h1.at hi)⟩
  rw [e]
  exact a1
theorem S1.twin {w wr : World} {s : Nat} {l : Nat → Dd} {k : Nat} (h : S1 w wr s l k) (hk : k ≤ 20) :
    Calls Tryz.prog 22 #[.pointer (some ⟨s, 0, none⟩)] wr fun e w' => ∃ t, e = .returned (.pointer (some ⟨t, 0, none⟩)) ∧ Tw w w' s k (runM l 0 newSt k) t k (runM l 0 newSt k) ∧ Below wr.heap.size wr w' := by
  obtain ⟨O, h1, hb⟩ := h
  refine (so_twin h1 hb.size (by omega) (runM_ok topsOk_new k)).mono ?_
  rintro er w' ⟨u, O', rfl, a1, a2, a3⟩
  exact ⟨u, rfl, ⟨O, O', h1.ext a3, a1, fun i hi ho => Nat.lt_irrefl _ (Nat.lt_of_lt_of_le (h1.lim hi) (a2 i ho)), hb.trans (below_le hb.size a3)⟩, a3⟩
theorem Tw.sorted {w0 w : World} {s Ns t Nt : Nat} {Ms Mt : StM} (h : Tw w0 w s Ns Ms t Nt Mt) : Ms.top.Pairwise (fun a b => bytesBefore (namL a.1) (namL b.1) = true) := by
  obtain ⟨Os, Ot, h1, _, _, h4⟩ := h
  exact run_sorted (so_run h1 h4)
set_option maxRecDepth 100000 in
theorem Came.deed {H : Type} {enc : TypeId × Value → H} {W : World} {base : Nat} {v : Value} {d : DataW H} {p : List MemPlace} (h : Came enc W base 43 v d p) : ∃ q : Dd, v = .agg q.cells ∧ q.Ok := by
  obtain ⟨cs, rfl, hsz⟩ := okWide_struct Tryz.underlying43 h.1
  rw [cells_deed] at hsz
  obtain ⟨fuel, hf⟩ := h.2
  obtain ⟨q, hq, hok⟩ := deed_of (by rw [Array.length_toList]; exact hsz) hf
  refine ⟨q, ?_, hok⟩
  have hq : cs.toList = q.list := hq
  rw [← Array.toArray_toList (xs := cs), hq]
  rfl
end Go.Proofs.YtjodiieeocaipaaGreatDoor

/-
  stavelaw21: StateRefuses.
-/
namespace Go.Proofs.YtjodiieeocaipaaGreatDoor
open Go.RowKit Go.Maps
attribute [local go_sem ↓] ldD_eq stD_eq ldQ_eq neDn_eq gnDn_eq ldE_eq stE_eq

theorem ldQ_bk {w : World} {G : Nat} {q : Dd} (h : Bk w G 43 q.cells) (hq : q.Ok) : (ldQ (.pointer (some ⟨G, 0, none⟩))).run Tryz.prog w = .ok (.agg q.cells) w := by
  have hr : RdQ w (some ⟨G, 0, none⟩) 1 1 (fun _ => q) := ⟨Nat.le_refl _, by decide, fun _ _ => hq, fun k hk => ⟨_, rfl, h.lt, fun j u hu => by
    obtain rfl : k = 0 := by omega
    rw [Addr.add_none, Nat.zero_mul, Nat.zero_add, Nat.zero_add, h.cell]
    simpa [Dd.cells, Dd.list] using hu⟩⟩
  have := hr.load (k := 0) (by omega)
  rw [Nat.zero_mul, Addr.add_none] at this
  exact this
theorem deed2_any (l : Nat → Dd) (k : Nat) (h : (l k).Ok) (v : World) : Calls Tryz.prog 15 #[.agg (l k).cells] v fun er w' => EntR v (l k) er w' := kentry_any (l k) h v
set_option maxRecDepth 100000 in
set_option maxHeartbeats 8000000 in
theorem stRef_any (A1 : Option Addr) (n1 c1 : Nat) (l : Nat → Dd) (q : Dd) (raw : Ent) (Ar : Option Addr) (nr cr : Nat) (isRaw : Bool) (w : World) (hr1 : RdQ w A1 n1 c1 l) (hq : q.Ok) (hrr : RdT w Ar nr cr raw.bat.vals) (hl : ErrLaid w) :
    Calls Tryz.prog 9 #[.slice A1 n1 c1, .agg q.cells, .agg #[.int .i64 raw.kind, .string raw.topic, .string raw.group, .int .i64 raw.part, .int .i64 raw.parts, .int .i64 raw.first, .int .i64 raw.off, .int .i64 raw.bat.time, .int .i64 raw.bat.prod, .int .i64 raw.bat.seq, .slice Ar nr cr], .bool isRaw] w fun e w' => e = .returned (.bool true) ∧ Below w.heap.size w w' := by
  have hb0 : Below w.heap.size w ((w.alloc (.cells #[.int .i64 q.k, .int .i64 q.t, .int .i64 q.g, .int .i64 q.p, .int .i64 q.n, .int .i64 q.b, .int .i64 q.q] 43)).alloc (.cells #[.int .i64 raw.kind, .string raw.topic, .string raw.group, .int .i64 raw.part, .int .i64 raw.parts, .int .i64 raw.first, .int .i64 raw.off, .int .i64 raw.bat.time, .int .i64 raw.bat.prod, .int .i64 raw.bat.seq, .slice Ar nr cr] 34)) := ((Below.refl w.heap.size w).alloc (Nat.le_refl _) _).alloc (by simp) _
  have hk0 : Bk ((w.alloc (.cells #[.int .i64 q.k, .int .i64 q.t, .int .i64 q.g, .int .i64 q.p, .int .i64 q.n, .int .i64 q.b, .int .i64 q.q] 43)).alloc (.cells #[.int .i64 raw.kind, .string raw.topic, .string raw.group, .int .i64 raw.part, .int .i64 raw.parts, .int .i64 raw.first, .int .i64 raw.off, .int .i64 raw.bat.time, .int .i64 raw.bat.prod, .int .i64 raw.bat.seq, .slice Ar nr cr] 34)) w.heap.size 43 q.cells := (Bk.made w _ _).alloc _
  have hk1 : Bk ((w.alloc (.cells #[.int .i64 q.k, .int .i64 q.t, .int .i64 q.g, .int .i64 q.p, .int .i64 q.n, .int .i64 q.b, .int .i64 q.q] 43)).alloc (.cells #[.int .i64 raw.kind, .string raw.topic, .string raw.group, .int .i64 raw.part, .int .i64 raw.parts, .int .i64 raw.first, .int .i64 raw.off, .int .i64 raw.bat.time, .int .i64 raw.bat.prod, .int .i64 raw.bat.seq, .slice Ar nr cr] 34)) (w.heap.size + 1) 34 #[.int .i64 raw.kind, .string raw.topic, .string raw.group, .int .i64 raw.part, .int .i64 raw.parts, .int .i64 raw.first, .int .i64 raw.off, .int .i64 raw.bat.time, .int .i64 raw.bat.prod, .int .i64 raw.bat.seq, .slice Ar nr cr] := Bk.made_at _ _ _ _ (by simp)
  have HB0 := Lib.hid hb0
  have HKq := Lib.hid hk0
  have HKr := Lib.hid hk1
  have HN := Lib.hid (s1_new ((w.alloc (.cells #[.int .i64 q.k, .int .i64 q.t, .int .i64 q.g, .int .i64 q.p, .int .i64 q.n, .int .i64 q.b, .int .i64 q.q] 43)).alloc (.cells #[.int .i64 raw.kind, .string raw.topic, .string raw.group, .int .i64 raw.part, .int .i64 raw.parts, .int .i64 raw.first, .int .i64 raw.off, .int .i64 raw.bat.time, .int .i64 raw.bat.prod, .int .i64 raw.bat.seq, .slice Ar nr cr] 34)) l)
  have HLd := Lib.hid hl
  have HR1 := Lib.hid hr1
  have HRr := Lib.hid hrr
  have HQ := Lib.hid hq
  have hcap1 := hr1.cap
  have hbig1 := hr1.big
  have hcapr := hrr.cap
  have hbigr := hrr.big
  clear hl hr1 hrr hq hb0 hk0 hk1
  unfold Dd.cells
  go_enter Tryz.func9, Tryz.ntmps9
  go_wp2_with fail
  obtain ⟨Gr, hGr⟩ : ∃ g, g = w.heap.size + 1 := ⟨_, rfl⟩
  obtain ⟨Gq, hGq⟩ : ∃ g, g = w.heap.size := ⟨_, rfl⟩
  rw [← hGr] at HKr ⊢
  rw [← hGq] at HKq ⊢
  generalize (w.alloc (.cells #[.int .i64 q.k, .int .i64 q.t, .int .i64 q.g, .int .i64 q.p, .int .i64 q.n, .int .i64 q.b, .int .i64 q.q] 43)).alloc (.cells #[.int .i64 raw.kind, .string raw.topic, .string raw.group, .int .i64 raw.part, .int .i64 raw.parts, .int .i64 raw.first, .int .i64 raw.off, .int .i64 raw.bat.time, .int .i64 raw.bat.prod, .int .i64 raw.bat.seq, .slice Ar nr cr] 34) = X at HB0 HKq HKr HN ⊢
  clear hGr hGq
  with_reducible refine HN.out.mono ?_
  rintro er w1 ⟨s, rfl, h1⟩
  have HI := Lib.hid h1
  clear h1 HN
  go_wp2_with fail
  go_loopw [10] (fun i wr => ∃ k : Nat, k ≤ n1 ∧ k ≤ 20 ∧ i = .int .i64 k ∧ Hid (S1 X wr s l k)) (fun i _ => n1 - (intOf i).toNat)
  case atStart => exact ⟨0, by omega, by omega, rfl, HI⟩
  case round =>
    obtain ⟨k, hkn, hk20, rfl, hInv⟩ := hrel
    clear HI
    go_upto_region 5 with fail
    go_cut [25] from 18 to 35 (fun s25 wx => s25 = .bool (decide (k < n1 ∧ k < 20)) ∧ wr = wx)
    case first =>
      by_cases h1 : k < n1
      · have hi : (k : Int) < n1 := by omega
        by_cases h2 : k < 20
        · have hi2 : (k : Int) < 20 := by omega
          have E := Lib.hid (decide_eq_true (And.intro h1 h2))
          go_wp2_with fail
          go_meet
          exact ⟨by rw [E.out], rfl⟩
        · have hi2 : ¬ (k : Int) < 20 := by omega
          have E := Lib.hid (decide_eq_false (p := k < n1 ∧ k < 20) (fun h => h2 h.2))
          go_wp2_with fail
          go_meet
          exact ⟨by rw [E.out], rfl⟩
      · have hi : ¬ (k : Int) < n1 := by omega
        have E := Lib.hid (decide_eq_false (p := k < n1 ∧ k < 20) (fun h => h1 h.1))
        go_wp2_with fail
        go_meet
        exact ⟨by rw [E.out], rfl⟩
    case rest =>
      obtain ⟨rfl, rfl⟩ := hcut
      by_cases hin : k < n1 ∧ k < 20
      · rw [decide_eq_true hin]
        obtain ⟨hlt, hlt2⟩ := hin
        have hi : (k : Int) < n1 := by omega
        have hrd := HR1.out.ext (HB0.out.trans (below_le HB0.out.size hInv.out.below)) (Nat.le_refl _)
        obtain ⟨ad, rfl, hadl, hce⟩ := hrd.cell k hlt
        have hld := hrd.load hlt
        have HOk := Lib.hid (hrd.ok k hlt)
        clear hadl hce hrd
        go_wp2_with (first | (go_at_call 15; go_loud (with_reducible refine (deed2_any l k HOk.out wr).mono ?_); go_loud (rintro er w3 ⟨A3, n3, c3, rfl, hr3, hb3⟩); have HR3 := Lib.hid hr3; have HB3 := Lib.hid hb3; clear hr3 hb3) | (go_at_call 11; with_reducible refine (hInv.out.step hlt2 HB3.out A3 n3 c3 HR3.out).mono ?_; rintro er w4 ⟨a4, v4, rfl, h4⟩; have H4 := Lib.hid h4; clear h4) | fail)
        go_roundw
        case rel => exact ⟨k + 1, by omega, by omega, by go_num, H4⟩
        case measure => simp [intOf]; omega
      · rw [decide_eq_false hin]
        clear hin hkn
        obtain ⟨M, hM⟩ : ∃ M, M = runM l 0 newSt k := ⟨_, rfl⟩
        have hTw := hInv.out.twin hk20
        have HB1 := Lib.hid hInv.out.below
        rw [← hM] at hTw
        have HT := Lib.hid hTw
        clear hInv hTw hM HR1
        go_wp2_with fail
        with_reducible refine HT.out.mono ?_
        rintro er w2 ⟨t, rfl, h2, hb2⟩
        have H2 := Lib.hid h2
        have HB2 := Lib.hid (HB1.out.trans (below_le HB1.out.size hb2))
        have hldq := ldQ_bk (HKq.out.ext HB2.out) HQ.out
        have HEq := Lib.hid (kentry_any q HQ.out w2)
        clear h2 hb2 HT HB1
        unfold Dd.cells at hldq HEq
        go_wp2_with fail
        with_reducible refine HEq.out.mono ?_
        rintro er w3 ⟨A3, n3, c3, rfl, hr3, hb3⟩
        obtain ⟨e, he⟩ : ∃ e, entOf q = e := ⟨_, rfl⟩
        rw [he] at hr3 ⊢
        have hk3 := Bk.made w3 34 #[.int .i64 0, .string ⟨#[]⟩, .string ⟨#[]⟩, .int .i64 0, .int .i64 0, .int .i64 0, .int .i64 0, .int .i64 0, .int .i64 0, .int .i64 0, .slice none 0 0]
        have hb3' := below_new w3 (.cells #[.int .i64 0, .string ⟨#[]⟩, .string ⟨#[]⟩, .int .i64 0, .int .i64 0, .int .i64 0, .int .i64 0, .int .i64 0, .int .i64 0, .int .i64 0, .slice none 0 0] 34)
        have hst := stE_row hk3 rfl e.kind e.topic e.group e.part e.parts e.first e.off e.bat.time e.bat.prod e.bat.seq A3 n3 c3
        have hb4 := below_row hb3' hb3'.size (Nat.le_refl _) #[.int .i64 e.kind, .string e.topic, .string e.group, .int .i64 e.part, .int .i64 e.parts, .int .i64 e.first, .int .i64 e.off, .int .i64 e.bat.time, .int .i64 e.bat.prod, .int .i64 e.bat.seq, .slice A3 n3 c3]
        have HK4 := Lib.hid (hk3.row #[.int .i64 e.kind, .string e.topic, .string e.group, .int .i64 e.part, .int .i64 e.parts, .int .i64 e.first, .int .i64 e.off, .int .i64 e.bat.time, .int .i64 e.bat.prod, .int .i64 e.bat.seq, .slice A3 n3 c3])
        have HR4 : Hid (RdT _ A3 n3 c3 e.bat.vals) := Lib.hid (RdT.ext hr3 hb4)
        have HB4 := Lib.hid (hb3.trans (below_le hb3.size hb4))
        have HG4 : Hid (w2.heap.size ≤ w3.heap.size) := hb3.size
        clear hr3 hb3 hk3 hb3' hb4 hldq HEq he
        go_upto_region 12 with fail
        obtain ⟨G, hG⟩ : ∃ G, G = w3.heap.size := ⟨_, rfl⟩
        rw [← hG] at HK4 HB4 HR4 HG4 ⊢
        generalize (w3.alloc (.cells #[.int .i64 0, .string ⟨#[]⟩, .string ⟨#[]⟩, .int .i64 0, .int .i64 0, .int .i64 0, .int .i64 0, .int .i64 0, .int .i64 0, .int .i64 0, .slice none 0 0] 34)).setRow G #[.int .i64 e.kind, .string e.topic, .string e.group, .int .i64 e.part, .int .i64 e.parts, .int .i64 e.first, .int .i64 e.off, .int .i64 e.bat.time, .int .i64 e.bat.prod, .int .i64 e.bat.seq, .slice A3 n3 c3] = Y at HK4 HB4 HR4 ⊢
        clear hst hG
        have h7 : Y.cell? ⟨Gr, 10, none⟩ = some (.slice Ar nr cr) := ((HKr.out.ext HB2.out).below HB4.out (HKr.out.ext HB2.out).lt).cell 10
        by_cases hraw : isRaw = true ∧ nr < 10
        · obtain ⟨rfl, hn⟩ := hraw
          have hn10 : (nr : Int) < 10 := by omega
          have hldr := ldE_bk ((HKr.out.ext HB2.out).below HB4.out (HKr.out.ext HB2.out).lt)
          have hst := stE_row HK4.out rfl raw.kind raw.topic raw.group raw.part raw.parts raw.first raw.off raw.bat.time raw.bat.prod raw.bat.seq Ar nr cr
          have HKe := Lib.hid (HK4.out.row #[.int .i64 raw.kind, .string raw.topic, .string raw.group, .int .i64 raw.part, .int .i64 raw.parts, .int .i64 raw.first, .int .i64 raw.off, .int .i64 raw.bat.time, .int .i64 raw.bat.prod, .int .i64 raw.bat.seq, .slice Ar nr cr])
          clear HKq HKr
          skip
          go_upto_region 14 with fail
          have hB := below_row HB4.out HB4.out.size HG4.out #[.int .i64 raw.kind, .string raw.topic, .string raw.group, .int .i64 raw.part, .int .i64 raw.parts, .int .i64 raw.first, .int .i64 raw.off, .int .i64 raw.bat.time, .int .i64 raw.bat.prod, .int .i64 raw.bat.seq, .slice Ar nr cr]
          have HTw : Hid (Tw X (Y.setRow G #[.int .i64 raw.kind, .string raw.topic, .string raw.group, .int .i64 raw.part, .int .i64 raw.parts, .int .i64 raw.first, .int .i64 raw.off, .int .i64 raw.bat.time, .int .i64 raw.bat.prod, .int .i64 raw.bat.seq, .slice Ar nr cr]) s k M t k M) := H2.out.ext hB
          have HRe : Hid (RdT (Y.setRow G #[.int .i64 raw.kind, .string raw.topic, .string raw.group, .int .i64 raw.part, .int .i64 raw.parts, .int .i64 raw.first, .int .i64 raw.off, .int .i64 raw.bat.time, .int .i64 raw.bat.prod, .int .i64 raw.bat.seq, .slice Ar nr cr]) Ar nr cr raw.bat.vals) := RdT.ext HRr.out ((HB0.out.trans (below_le HB0.out.size HB2.out)).trans (below_le (Nat.le_trans HB0.out.size HB2.out.size) hB))
          clear hB HK4 HR4 HB4 HG4 hldr h7 HRr H2 HB2
          generalize Y.setRow G #[.int .i64 raw.kind, .string raw.topic, .string raw.group, .int .i64 raw.part, .int .i64 raw.parts, .int .i64 raw.first, .int .i64 raw.off, .int .i64 raw.bat.time, .int .i64 raw.bat.prod, .int .i64 raw.bat.seq, .slice Ar nr cr] = Z at HKe HTw HRe ⊢
          clear hst
          rcases hM : applyM M raw 60 0 with ⟨M', ⟨b, cn, ag⟩, kd⟩
          have HAp := Lib.hid (HTw.out.step (by omega) raw Ar nr cr HRe.out 60 0 hM)
          have HSame := Lib.hid (apply_same HTw.out.sorted hM)
          have hlde := ldE_bk HKe.out
          clear hM HKe HRe HTw
          go_wp2_with fail
          with_reducible refine HAp.out.mono ?_
          rintro er z1 ⟨v, rfl, hv, ht⟩
          obtain ⟨hst1, hkn1, hbx1⟩ := box_done z1 b cn ag
          have HK1 := Lib.hid hkn1
          have H5 := Lib.hid (ht.ext hbx1)
          have HV := Lib.hid hv
          clear hv ht hbx1 hkn1 hlde HAp
          go_upto_region 15 with fail
          obtain ⟨G1, hG1⟩ : ∃ G, G = z1.heap.size := ⟨_, rfl⟩
          rw [← hG1] at HK1 H5 ⊢
          generalize (z1.alloc (.cells #[.int .i64 0, .int .i64 0, .bool false] 25)).setRow G1 #[.int .i64 b, .int .i64 cn, .bool ag] = X1 at HK1 H5 ⊢
          clear hst1 hG1
          have HBx := Lib.hid H5.out.below
          have HSr : Hid (∀ v, Below X1.heap.size X1 v → Calls Tryz.prog 3 #[] v fun e w' => e = .returned (.bool true) ∧ Below X1.heap.size X1 w') := fun v hv =>
            (stRuns_any v (ErrLaid.below (ErrLaid.below (ErrLaid.below HLd.out HB0.out) HBx.out) hv)).mono fun er w' h => ⟨h.1, hv.trans (below_le hv.size h.2)⟩
          have HEnd : Hid (∀ v, Below X1.heap.size X1 v → Below w.heap.size w v) := fun v hv => (HB0.out.trans (below_le HB0.out.size HBx.out)).trans (below_le (Nat.le_trans HB0.out.size HBx.out.size) hv)
          by_cases hkd : kd = 0
          · subst hkd
            obtain rfl := nil_of HV.out
            cases ag
            · have h2 : X1.cell? ⟨G1, 2, none⟩ = some (.bool false) := HK1.out.cell 2
              clear HV HSame H5
              go_wp2_with (first | (go_at_call 3; with_reducible refine (HSr.out _ (Below.refl _ _)).mono ?_; rintro er y3 ⟨rfl, hy3⟩; have HY3 := Lib.hid hy3; clear hy3) | fail)
              go_ret
              exact ⟨rfl, HEnd.out _ HY3.out⟩
            · have h2 : X1.cell? ⟨G1, 2, none⟩ = some (.bool true) := HK1.out.cell 2
              obtain rfl := HSame.out.2 rfl rfl
              have HTt := Lib.hid (H5.out.twins (by omega) (by omega))
              clear HV HSame H5
              go_wp2_with (first | (go_at_call 23; with_reducible refine HTt.out.mono ?_; rintro er y1 ⟨rfl, hy1⟩; have HY1 := Lib.hid hy1; clear hy1) | (go_at_call 3; with_reducible refine (HSr.out _ HY1.out).mono ?_; rintro er y3 ⟨rfl, hy3⟩; have HY3 := Lib.hid hy3; clear hy3) | fail)
              go_ret
              exact ⟨rfl, HEnd.out _ HY3.out⟩
          · obtain ⟨rfl, hD⟩ := HSame.out.1 hkd
            obtain ⟨rfl, rfl, rfl⟩ : b = 0 ∧ cn = 0 ∧ ag = false := by
              cases hD
              exact ⟨rfl, rfl, rfl⟩
            obtain ⟨op, a4, v4, rfl⟩ : ∃ op a4 v4, v = fltV op a4 v4 := by
              rcases HV.out with ⟨h, _⟩ | ⟨_, d, _, h⟩
              · exact absurd h hkd
              · cases h
                exact ⟨_, _, _, rfl⟩
            have HTt := Lib.hid (H5.out.twins (by omega) (by omega))
            have hl1 := ldD_bk HK1.out
            have hne := fun v => ne_done 0 0 false v
            have hgu := fun x y v => gn_done x y #[.int .i64 0, .int .i64 0, .bool false] #[.int .i64 0, .int .i64 0, .bool false] v
            clear HV HSame H5 hD hkd
            unfold fltV
            go_wp2_with (first | (go_at_call 23; with_reducible refine HTt.out.mono ?_; rintro er y1 ⟨rfl, hy1⟩; have HY1 := Lib.hid hy1; clear hy1) | (go_at_call 3; with_reducible refine (HSr.out _ HY1.out).mono ?_; rintro er y3 ⟨rfl, hy3⟩; have HY3 := Lib.hid hy3; clear hy3) | fail)
            go_ret
            exact ⟨rfl, HEnd.out _ HY3.out⟩
        · have HKe := HK4
          have HTw : Hid (Tw X Y s k M t k M) := H2.out.ext HB4.out
          have HRe := HR4
          clear HK4 HR4 H2 HB4 HG4 HKq HKr HRr
          have hcase : isRaw = false ∨ (isRaw = true ∧ ¬ (nr : Int) < 10) := by
            cases isRaw
            · exact .inl rfl
            · exact .inr ⟨rfl, fun h => hraw ⟨rfl, by omega⟩⟩
          clear hraw
          rcases hcase with rfl | ⟨rfl, hn10⟩
          all_goals
            go_upto_region 14 with fail
            clear h7
            rcases hM : applyM M e 60 0 with ⟨M', ⟨b, cn, ag⟩, kd⟩
            have HAp := Lib.hid (HTw.out.step (by omega) e A3 n3 c3 HRe.out 60 0 hM)
            have HSame := Lib.hid (apply_same HTw.out.sorted hM)
            have hlde := ldE_bk HKe.out
            clear hM HKe HRe HTw
            go_wp2_with fail
            with_reducible refine HAp.out.mono ?_
            rintro er z1 ⟨v, rfl, hv, ht⟩
            obtain ⟨hst1, hkn1, hbx1⟩ := box_done z1 b cn ag
            have HK1 := Lib.hid hkn1
            have H5 := Lib.hid (ht.ext hbx1)
            have HV := Lib.hid hv
            clear hv ht hbx1 hkn1 hlde HAp
            go_upto_region 15 with fail
            obtain ⟨G1, hG1⟩ : ∃ G, G = z1.heap.size := ⟨_, rfl⟩
            rw [← hG1] at HK1 H5 ⊢
            generalize (z1.alloc (.cells #[.int .i64 0, .int .i64 0, .bool false] 25)).setRow G1 #[.int .i64 b, .int .i64 cn, .bool ag] = X1 at HK1 H5 ⊢
            clear hst1 hG1
            have HBx := Lib.hid H5.out.below
            have HSr : Hid (∀ v, Below X1.heap.size X1 v → Calls Tryz.prog 3 #[] v fun e w' => e = .returned (.bool true) ∧ Below X1.heap.size X1 w') := fun v hv =>
              (stRuns_any v (ErrLaid.below (ErrLaid.below (ErrLaid.below HLd.out HB0.out) HBx.out) hv)).mono fun er w' h => ⟨h.1, hv.trans (below_le hv.size h.2)⟩
            have HEnd : Hid (∀ v, Below X1.heap.size X1 v → Below w.heap.size w v) := fun v hv => (HB0.out.trans (below_le HB0.out.size HBx.out)).trans (below_le (Nat.le_trans HB0.out.size HBx.out.size) hv)
            by_cases hkd : kd = 0
            · subst hkd
              obtain rfl := nil_of HV.out
              cases ag
              · have h2 : X1.cell? ⟨G1, 2, none⟩ = some (.bool false) := HK1.out.cell 2
                clear HV HSame H5
                go_wp2_with (first | (go_at_call 3; with_reducible refine (HSr.out _ (Below.refl _ _)).mono ?_; rintro er y3 ⟨rfl, hy3⟩; have HY3 := Lib.hid hy3; clear hy3) | fail)
                go_ret
                exact ⟨rfl, HEnd.out _ HY3.out⟩
              · have h2 : X1.cell? ⟨G1, 2, none⟩ = some (.bool true) := HK1.out.cell 2
                obtain rfl := HSame.out.2 rfl rfl
                have HTt := Lib.hid (H5.out.twins (by omega) (by omega))
                clear HV HSame H5
                go_wp2_with (first | (go_at_call 23; with_reducible refine HTt.out.mono ?_; rintro er y1 ⟨rfl, hy1⟩; have HY1 := Lib.hid hy1; clear hy1) | (go_at_call 3; with_reducible refine (HSr.out _ HY1.out).mono ?_; rintro er y3 ⟨rfl, hy3⟩; have HY3 := Lib.hid hy3; clear hy3) | fail)
                go_ret
                exact ⟨rfl, HEnd.out _ HY3.out⟩
            · obtain ⟨rfl, hD⟩ := HSame.out.1 hkd
              obtain ⟨rfl, rfl, rfl⟩ : b = 0 ∧ cn = 0 ∧ ag = false := by
                cases hD
                exact ⟨rfl, rfl, rfl⟩
              obtain ⟨op, a4, v4, rfl⟩ : ∃ op a4 v4, v = fltV op a4 v4 := by
                rcases HV.out with ⟨h, _⟩ | ⟨_, d, _, h⟩
                · exact absurd h hkd
                · cases h
                  exact ⟨_, _, _, rfl⟩
              have HTt := Lib.hid (H5.out.twins (by omega) (by omega))
              have hl1 := ldD_bk HK1.out
              have hne := fun v => ne_done 0 0 false v
              have hgu := fun x y v => gn_done x y #[.int .i64 0, .int .i64 0, .bool false] #[.int .i64 0, .int .i64 0, .bool false] v
              clear HV HSame H5 hD hkd
              unfold fltV
              go_wp2_with (first | (go_at_call 23; with_reducible refine HTt.out.mono ?_; rintro er y1 ⟨rfl, hy1⟩; have HY1 := Lib.hid hy1; clear hy1) | (go_at_call 3; with_reducible refine (HSr.out _ HY1.out).mono ?_; rintro er y3 ⟨rfl, hy3⟩; have HY3 := Lib.hid hy3; clear hy3) | fail)
              go_ret
              exact ⟨rfl, HEnd.out _ HY3.out⟩
end Go.Proofs.YtjodiieeocaipaaGreatDoor

/-
  stavelaw21: StateRefuses, over whatever came.
-/
namespace Go.Proofs.YtjodiieeocaipaaGreatDoor
open Go.ChangeShapes Go.WideShapes Go.ChangeAt Go.RowKit
set_option maxRecDepth 100000 in
theorem stateRefuses_any {H : Type} {enc : TypeId × Value → H} {base : Nat} {v0 v1 v2 v3 : Value} {d0 d1 d2 d3 : DataW H} {p0 p1 p2 p3 : List MemPlace} (w : World) (hl : ErrLaid w) (h0 : Came enc w base 39 v0 d0 p0) (h1 : Came enc w base 43 v1 d1 p1) (h2 : Came enc w base 34 v2 d2 p2) (h3 : Came enc w base 4 v3 d3 p3) :
    Calls Tryz.prog 9 #[v0, v1, v2, v3] w fun er w' => er = .returned (.bool true) ∧ Below w.heap.size w w' := by
  obtain ⟨A, n, c, l, rfl, hr⟩ := h0.deeds
  obtain ⟨q, rfl, hq⟩ := h1.deed
  obtain ⟨raw, B, m, d, rfl, hrr, _⟩ := h2.entry
  obtain ⟨b, rfl⟩ := okWide_bool Tryz.underlying4 h3.1
  exact stRef_any A n c l q raw B m d b w hr hq hrr hl
end Go.Proofs.YtjodiieeocaipaaGreatDoor
