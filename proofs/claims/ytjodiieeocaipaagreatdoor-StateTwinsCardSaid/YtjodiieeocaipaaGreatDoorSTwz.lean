import Derived.Test.YtjodiieeocaipaaGreatDoorSTwinz
import Derived.Deep.CutRange
/-
  stavelaw21: StateTwins.
-/
namespace Go.Proofs.YtjodiieeocaipaaGreatDoor
open Go.RowKit Go.Maps
attribute [local go_sem ↓] ldD_eq stD_eq ldQ_eq neDn_eq gnDn_eq

/-- ahead of a round of the first loop; in its middle -/
def T1 (w wr : World) (s t : Nat) (l : Nat → Dd) (k : Nat) : Prop := Tw w wr s k (runM l 0 newSt k) t k (runM l 0 newSt k)
def T1m (w wr : World) (s t : Nat) (l : Nat → Dd) (k : Nat) : Prop := Tw w wr s (k + 1) (runM l 0 newSt (k + 1)) t k (runM l 0 newSt k)
theorem T1.step {w wr w3 : World} {s t : Nat} {l : Nat → Dd} {k : Nat} (h : T1 w wr s t l k) (hk : k < 20) (hb : Below wr.heap.size wr w3) (A : Option Addr) (n c : Nat) (hrd : RdT w3 A n c (entOf (l k)).bat.vals) :
    Calls Tryz.prog 11 #[.pointer (some ⟨s, 0, none⟩), .agg #[.int .i64 (entOf (l k)).kind, .string (entOf (l k)).topic, .string (entOf (l k)).group, .int .i64 (entOf (l k)).part, .int .i64 (entOf (l k)).parts, .int .i64 (entOf (l k)).first, .int .i64 (entOf (l k)).off, .int .i64 (entOf (l k)).bat.time, .int .i64 (entOf (l k)).bat.prod, .int .i64 (entOf (l k)).bat.seq, .slice A n c], .int .i64 k, .int .i64 0] w3 fun er w' => ∃ a v, er = .returned (.tuple #[a, v]) ∧ T1m w w' s t l k := by
  refine ((h.ext hb).step (by omega) (entOf (l k)) A n c hrd k 0 rfl).mono ?_
  rintro er w' ⟨v, rfl, _, h2⟩
  refine ⟨_, v, rfl, ?_⟩
  have e : runM l 0 newSt (k + 1) = (applyM (runM l 0 newSt k) (entOf (l k)) k 0).1 := by show (applyM (runM l 0 newSt k) (entOf (l k)) (0 + (k : Int)) 0).1 = _; rw [Int.zero_add]
  unfold T1m
  rw [e]
  exact h2
theorem T1m.step {w wr w3 : World} {s t : Nat} {l : Nat → Dd} {k : Nat} (h : T1m w wr s t l k) (hk : k < 20) (hb : Below wr.heap.size wr w3) (A : Option Addr) (n c : Nat) (hrd : RdT w3 A n c (entOf (l k)).bat.vals) :
    Calls Tryz.prog 11 #[.pointer (some ⟨t, 0, none⟩), .agg #[.int .i64 (entOf (l k)).kind, .string (entOf (l k)).topic, .string (entOf (l k)).group, .int .i64 (entOf (l k)).part, .int .i64 (entOf (l k)).parts, .int .i64 (entOf (l k)).first, .int .i64 (entOf (l k)).off, .int .i64 (entOf (l k)).bat.time, .int .i64 (entOf (l k)).bat.prod, .int .i64 (entOf (l k)).bat.seq, .slice A n c], .int .i64 k, .int .i64 0] w3 fun er w' => ∃ a v, er = .returned (.tuple #[a, v]) ∧ T1 w w' s t l (k + 1) := by
  rcases hM : applyM (runM l 0 newSt k) (entOf (l k)) k 0 with ⟨M', D, kd⟩
  refine ((h.ext hb).swap.step (by omega) (entOf (l k)) A n c hrd k 0 hM).mono ?_
  rintro er w' ⟨v, rfl, _, h2⟩
  refine ⟨_, v, rfl, ?_⟩
  have e : runM l 0 newSt (k + 1) = M' := by show (applyM (runM l 0 newSt k) (entOf (l k)) (0 + (k : Int)) 0).1 = _; rw [Int.zero_add, hM]
  rw [← e] at h2
  exact h2.swap
/-- ahead of a round of the second loop -/
def T2 (w wr : World) (s t u : Nat) (M : StM) (q : Nat) (m : Nat → Dd) (k : Nat) : Prop := Th w wr (fun _ => False) s q M t q M u (q + k) (runM m 50 M k)
theorem T2.step {w wr w3 : World} {s t u : Nat} {M : StM} {q : Nat} {m : Nat → Dd} {k : Nat} (h : T2 w wr s t u M q m k) (hk : k < 15) (hq : q ≤ 20) (hb : Below wr.heap.size wr w3) (A : Option Addr) (n c : Nat) (hrd : RdT w3 A n c (entOf (m k)).bat.vals) :
    Calls Tryz.prog 11 #[.pointer (some ⟨u, 0, none⟩), .agg #[.int .i64 (entOf (m k)).kind, .string (entOf (m k)).topic, .string (entOf (m k)).group, .int .i64 (entOf (m k)).part, .int .i64 (entOf (m k)).parts, .int .i64 (entOf (m k)).first, .int .i64 (entOf (m k)).off, .int .i64 (entOf (m k)).bat.time, .int .i64 (entOf (m k)).bat.prod, .int .i64 (entOf (m k)).bat.seq, .slice A n c], .int .i64 (50 + (k : Int)), .int .i64 0] w3 fun er w' => ∃ a v, er = .returned (.tuple #[a, v]) ∧ T2 w w' s t u M q m (k + 1) := by
  refine (((h.ext hb).less (K' := fun _ => False) (fun _ h => h.elim)).rot.rot.step (by omega) (entOf (m k)) A n c hrd (50 + k) 0 rfl).mono ?_
  rintro er w' ⟨v, rfl, _, h2, _⟩
  exact ⟨_, v, rfl, h2.rot⟩
/-- ahead of a round of the third loop; in its middle -/
def T3 (w wr : World) (s t u : Nat) (M : StM) (q : Nat) (m : Nat → Dd) (j k : Nat) : Prop := Th w wr (fun _ => False) s (q + k) (runM m 50 M k) t (q + k) (runM m 50 M k) u (q + j) (runM m 50 M j)
def T3m (w wr : World) (s t u : Nat) (M : StM) (q : Nat) (m : Nat → Dd) (j k g : Nat) : Prop := Th w wr (fun i => i = g) s (q + k + 1) (runM m 50 M (k + 1)) t (q + k) (runM m 50 M k) u (q + j) (runM m 50 M j)

theorem T3.step {w wr w3 : World} {s t u : Nat} {M : StM} {q : Nat} {m : Nat → Dd} {j k : Nat} (h : T3 w wr s t u M q m j k) (hk : k < 15) (hq : q ≤ 20) (hb : Below wr.heap.size wr w3) (A : Option Addr) (n c : Nat) (hrd : RdT w3 A n c (entOf (m k)).bat.vals) {M' : StM} {D : DoneM} {kd : Int} (hM : applyM (runM m 50 M k) (entOf (m k)) (50 + k) 0 = (M', D, kd)) :
    Calls Tryz.prog 11 #[.pointer (some ⟨s, 0, none⟩), .agg #[.int .i64 (entOf (m k)).kind, .string (entOf (m k)).topic, .string (entOf (m k)).group, .int .i64 (entOf (m k)).part, .int .i64 (entOf (m k)).parts, .int .i64 (entOf (m k)).first, .int .i64 (entOf (m k)).off, .int .i64 (entOf (m k)).bat.time, .int .i64 (entOf (m k)).bat.prod, .int .i64 (entOf (m k)).bat.seq, .slice A n c], .int .i64 (50 + (k : Int)), .int .i64 0] w3 fun er w' => ∃ v, er = .returned (.tuple #[.agg #[.int .i64 D.base, .int .i64 D.cnt, .bool D.again], v]) ∧ ErrV2 v kd ∧ Th w w' (fun _ => False) s (q + k + 1) (runM m 50 M (k + 1)) t (q + k) (runM m 50 M k) u (q + j) (runM m 50 M j) := by
  refine (((h.ext hb).less (K' := fun _ => False) (fun _ h => h.elim)).step (by omega) (entOf (m k)) A n c hrd (50 + k) 0 hM).mono ?_
  rintro er w' ⟨v, rfl, hv, h2, _⟩
  have e : M' = runM m 50 M (k + 1) := by show _ = (applyM (runM m 50 M k) (entOf (m k)) (50 + (k : Int)) 0).1; rw [hM]
  rw [e] at h2
  exact ⟨v, rfl, hv, h2⟩
theorem T3m.step {w wr w3 : World} {s t u : Nat} {M : StM} {q : Nat} {m : Nat → Dd} {j k g : Nat} (h : T3m w wr s t u M q m j k g) (hk : k < 15) (hq : q ≤ 20) (hb : Below wr.heap.size wr w3) (A : Option Addr) (n c : Nat) (hrd : RdT w3 A n c (entOf (m k)).bat.vals) {M' : StM} {D : DoneM} {kd : Int} (hM : applyM (runM m 50 M k) (entOf (m k)) (50 + k) 0 = (M', D, kd)) :
    Calls Tryz.prog 11 #[.pointer (some ⟨t, 0, none⟩), .agg #[.int .i64 (entOf (m k)).kind, .string (entOf (m k)).topic, .string (entOf (m k)).group, .int .i64 (entOf (m k)).part, .int .i64 (entOf (m k)).parts, .int .i64 (entOf (m k)).first, .int .i64 (entOf (m k)).off, .int .i64 (entOf (m k)).bat.time, .int .i64 (entOf (m k)).bat.prod, .int .i64 (entOf (m k)).bat.seq, .slice A n c], .int .i64 (50 + (k : Int)), .int .i64 0] w3 fun er w' => ∃ v, er = .returned (.tuple #[.agg #[.int .i64 D.base, .int .i64 D.cnt, .bool D.again], v]) ∧ ErrV2 v kd ∧ T3 w w' s t u M q m j (k + 1) ∧ Turned (fun i => w.heap.size ≤ i ∧ ¬ i = g) w3 w' := by
  refine (((h.ext hb).less (K' := fun i => i = g) (fun _ h => .inl h)).rot.step (by omega) (entOf (m k)) A n c hrd (50 + k) 0 hM).mono ?_
  rintro er w' ⟨v, rfl, hv, h2, h3⟩
  have e : M' = runM m 50 M (k + 1) := by show _ = (applyM (runM m 50 M k) (entOf (m k)) (50 + (k : Int)) 0).1; rw [hM]
  rw [e] at h2
  exact ⟨v, rfl, hv, h2.rot.rot.less (K' := fun _ => False) (fun _ h => h.elim), h3⟩
theorem T3.box {w wr w' : World} {s t u : Nat} {M : StM} {q : Nat} {m : Nat → Dd} {j k g : Nat} (h : Th w wr (fun _ => False) s (q + k + 1) (runM m 50 M (k + 1)) t (q + k) (runM m 50 M k) u (q + j) (runM m 50 M j)) (hb : Below wr.heap.size wr w') (hg : wr.heap.size ≤ g ∧ g < w'.heap.size) : T3m w w' s t u M q m j k g :=
  (h.ext hb).less fun _ e => .inr (by rw [e]; exact hg)
theorem deed_any (l : Nat → Dd) (k : Nat) (h : (l k).Ok) (v : World) : Calls Tryz.prog 15 #[.agg (l k).cells] v fun er w' => EntR v (l k) er w' := kentry_any (l k) h v

set_option maxRecDepth 100000 in
set_option maxHeartbeats 8000000 in
theorem stTwins_any (A1 : Option Addr) (n1 c1 : Nat) (l : Nat → Dd) (A2 : Option Addr) (n2 c2 : Nat) (m : Nat → Dd) (w : World) (hr1 : RdQ w A1 n1 c1 l) (hr2 : RdQ w A2 n2 c2 m) (hl : ErrLaid w) :
    Calls Tryz.prog 8 #[.slice A1 n1 c1, .slice A2 n2 c2] w fun e w' => e = .returned (.bool true) ∧ Below w.heap.size w w' := by
  have HN := Lib.hid (so_new w w (Nat.le_refl _))
  have HLd := Lib.hid hl
  have HR1 := Lib.hid hr1
  have HR2 := Lib.hid hr2
  have hcap1 := hr1.cap
  have hcap2 := hr2.cap
  have hbig1 := hr1.big
  have hbig2 := hr2.big
  clear hl hr1 hr2
  go_enter Tryz.func8, Tryz.ntmps8
  go_wp2_with fail
  with_reducible refine HN.out.mono ?_
  rintro er w1 ⟨s, O, rfl, ho, _, hb1⟩
  have HN2 := Lib.hid (tw_new w w1 hb1 ho)
  clear ho hb1 HN
  go_wp2_with fail
  with_reducible refine HN2.out.mono ?_
  rintro er w2 ⟨t, rfl, ht⟩
  have HI : Hid (T1 w w2 s t l 0) := ht
  clear ht HN2
  go_wp2_with fail
  go_loopw [7] (fun i wr => ∃ k : Nat, k ≤ n1 ∧ k ≤ 20 ∧ i = .int .i64 k ∧ Hid (T1 w wr s t l k)) (fun i _ => n1 - (intOf i).toNat)
  case atStart => exact ⟨0, by omega, by omega, rfl, HI⟩
  case round =>
    obtain ⟨k, hkn, hk20, rfl, hInv⟩ := hrel
    clear HI
    go_upto_region 5 with fail
    go_cut [30] from 23 to 48 (fun s30 wx => s30 = .bool (decide (k < n1 ∧ k < 20)) ∧ wr = wx)
    case first =>
      by_cases h1 : k < n1
      · have hi : (k : Int) < n1 := by omega
        by_cases h2 : k < 20
        · have hi2 : (k : Int) < 20 := by omega
          have E := Lib.hid (decide_eq_true (And.intro h1 h2))
          go_wp2_with fail
          go_meet
          exact ⟨by rw [E.out], rfl⟩
        · have hi2 : ¬ (k : Int) < 20 := by omega
          have E := Lib.hid (decide_eq_false (p := k < n1 ∧ k < 20) (fun h => h2 h.2))
          go_wp2_with fail
          go_meet
          exact ⟨by rw [E.out], rfl⟩
      · have hi : ¬ (k : Int) < n1 := by omega
        have E := Lib.hid (decide_eq_false (p := k < n1 ∧ k < 20) (fun h => h1 h.1))
        go_wp2_with fail
        go_meet
        exact ⟨by rw [E.out], rfl⟩
    case rest =>
      obtain ⟨rfl, rfl⟩ := hcut
      by_cases hin : k < n1 ∧ k < 20
      · rw [decide_eq_true hin]
        obtain ⟨hlt, hlt2⟩ := hin
        have hi : (k : Int) < n1 := by omega
        have hrd := HR1.out.ext hInv.out.below (Nat.le_refl _)
        obtain ⟨ad, rfl, hadl, hce⟩ := hrd.cell k hlt
        have hld := hrd.load hlt
        have HOk := Lib.hid (hrd.ok k hlt)
        clear hadl hce hrd
        go_upto_region 8 with (first | (go_at_call 15; go_loud (with_reducible refine (deed_any l k HOk.out wr).mono ?_); go_loud (rintro er w3 ⟨A3, n3, c3, rfl, hr3, hb3⟩); have HR3 := Lib.hid hr3; have HB3 := Lib.hid hb3; clear hr3 hb3) | (go_at_call 11; with_reducible refine (hInv.out.step hlt2 HB3.out A3 n3 c3 HR3.out).mono ?_; rintro er w4 ⟨a4, v4, rfl, h4⟩; have H4 := Lib.hid h4; clear h4) | fail)
        have hb4 := H4.out.below
        have hld4 := (HR1.out.ext hb4 (Nat.le_refl _)).load hlt
        clear hb4 hld HR3 HB3
        go_wp2_with (first | (go_at_call 15; go_loud (with_reducible refine (deed_any l k HOk.out w4).mono ?_); go_loud (rintro er w5 ⟨A5, n5, c5, rfl, hr5, hb5⟩); have HR5 := Lib.hid hr5; have HB5 := Lib.hid hb5; clear hr5 hb5) | (go_at_call 11; with_reducible refine (H4.out.step hlt2 HB5.out A5 n5 c5 HR5.out).mono ?_; rintro er w6 ⟨a6, v6, rfl, h6⟩; have H6 := Lib.hid h6; clear h6) | fail)
        go_roundw
        case rel => exact ⟨k + 1, by omega, by omega, by go_num, H6⟩
        case measure => simp [intOf]; omega
      · rw [decide_eq_false hin]
        clear hin hkn
        obtain ⟨M, hM⟩ : ∃ M, M = runM l 0 newSt k := ⟨_, rfl⟩
        have hok : TopsOk M := by rw [hM]; exact runM_ok topsOk_new k
        have hTw : Tw w wr s k M t k M := by rw [hM]; exact hInv.out
        have HT := Lib.hid (hTw.twin (by omega) hok)
        clear hInv hok hTw hM HR1
        go_wp2_with fail
        with_reducible refine HT.out.mono ?_
        rintro er w3 ⟨u, rfl, h3⟩
        have H3 : Hid (T2 w w3 s t u M k m 0) := h3
        clear h3 HT
        go_wp2_with fail
        go_loopw [9] (fun i wr => ∃ j : Nat, j ≤ n2 ∧ j ≤ 15 ∧ i = .int .i64 j ∧ Hid (T2 w wr s t u M k m j)) (fun i _ => n2 - (intOf i).toNat)
        case atStart => exact ⟨0, by omega, by omega, rfl, H3⟩
        case round =>
          obtain ⟨j, hjn, hj15, rfl, hInv⟩ := hrel
          clear H3
          go_upto_region 13 with fail
          go_cut [60] from 53 to 71 (fun s60 wx => s60 = .bool (decide (j < n2 ∧ j < 15)) ∧ wr = wx)
          case first =>
            by_cases h1 : j < n2
            · have hi : (j : Int) < n2 := by omega
              by_cases h2 : j < 15
              · have hi2 : (j : Int) < 15 := by omega
                have E := Lib.hid (decide_eq_true (And.intro h1 h2))
                go_wp2_with fail
                go_meet
                exact ⟨by rw [E.out], rfl⟩
              · have hi2 : ¬ (j : Int) < 15 := by omega
                have E := Lib.hid (decide_eq_false (p := j < n2 ∧ j < 15) (fun h => h2 h.2))
                go_wp2_with fail
                go_meet
                exact ⟨by rw [E.out], rfl⟩
            · have hi : ¬ (j : Int) < n2 := by omega
              have E := Lib.hid (decide_eq_false (p := j < n2 ∧ j < 15) (fun h => h1 h.1))
              go_wp2_with fail
              go_meet
              exact ⟨by rw [E.out], rfl⟩
          case rest =>
            obtain ⟨rfl, rfl⟩ := hcut
            by_cases hin : j < n2 ∧ j < 15
            · rw [decide_eq_true hin]
              obtain ⟨hlt, hlt2⟩ := hin
              have hi : (j : Int) < n2 := by omega
              have hrd := HR2.out.ext hInv.out.below (Nat.le_refl _)
              obtain ⟨ad, rfl, hadl, hce⟩ := hrd.cell j hlt
              have hld := hrd.load hlt
              have HOk := Lib.hid (hrd.ok j hlt)
              clear hadl hce hrd
              go_wp2_with (first | (go_at_call 15; go_loud (with_reducible refine (deed_any m j HOk.out wr).mono ?_); go_loud (rintro er w5 ⟨A5, n5, c5, rfl, hr5, hb5⟩); have HR5 := Lib.hid hr5; have HB5 := Lib.hid hb5; clear hr5 hb5) | (go_at_call 11; go_loud (with_reducible refine (hInv.out.step hlt2 hk20 HB5.out A5 n5 c5 HR5.out).mono ?_); rintro er w6 ⟨a6, v6, rfl, h6⟩; have H6 := Lib.hid h6; clear h6) | fail)
              go_roundw
              case rel => exact ⟨j + 1, by omega, by omega, by go_num, H6⟩
              case measure => simp [intOf]; omega
            · rw [decide_eq_false hin]
              have hjj : ¬ (j < n2 ∧ j < 15) := hin
              have HJ := Lib.hid hjj
              clear hin hjj
              have h3 : T3 w wr s t u M k m j 0 := hInv.out
              have HTw := Lib.hid (Th.twins h3 (by omega) (by omega))
              have H3 := Lib.hid h3
              clear h3 hInv
              go_wp2_with fail
              with_reducible refine HTw.out.mono ?_
              rintro er w4 ⟨rfl, hb4⟩
              have H4 : Hid (T3 w w4 s t u M k m j 0) := (H3.out.ext hb4).less (fun _ h => .inl h)
              clear hb4 HTw H3
              go_wp2_with fail
              go_loopw [10] (fun i wr => ∃ q : Nat, q ≤ n2 ∧ q ≤ 15 ∧ i = .int .i64 q ∧ Hid (T3 w wr s t u M k m j q)) (fun i _ => n2 - (intOf i).toNat)
              case atStart => exact ⟨0, by omega, by omega, rfl, H4⟩
              case round =>
                obtain ⟨q, hqn, hq15, rfl, hInv⟩ := hrel
                clear H4
                go_upto_region 19 with fail
                go_cut [83] from 76 to 119 (fun s83 wx => s83 = .bool (decide (q < n2 ∧ q < 15)) ∧ wr = wx)
                case first =>
                  by_cases h1 : q < n2
                  · have hi : (q : Int) < n2 := by omega
                    by_cases h2 : q < 15
                    · have hi2 : (q : Int) < 15 := by omega
                      have E := Lib.hid (decide_eq_true (And.intro h1 h2))
                      go_wp2_with fail
                      go_meet
                      exact ⟨by rw [E.out], rfl⟩
                    · have hi2 : ¬ (q : Int) < 15 := by omega
                      have E := Lib.hid (decide_eq_false (p := q < n2 ∧ q < 15) (fun h => h2 h.2))
                      go_wp2_with fail
                      go_meet
                      exact ⟨by rw [E.out], rfl⟩
                  · have hi : ¬ (q : Int) < n2 := by omega
                    have E := Lib.hid (decide_eq_false (p := q < n2 ∧ q < 15) (fun h => h1 h.1))
                    go_wp2_with fail
                    go_meet
                    exact ⟨by rw [E.out], rfl⟩
                case rest =>
                  obtain ⟨rfl, rfl⟩ := hcut
                  by_cases hin : q < n2 ∧ q < 15
                  · rw [decide_eq_true hin]
                    obtain ⟨hlt, hlt2⟩ := hin
                    have hi : (q : Int) < n2 := by omega
                    have hrd := HR2.out.ext hInv.out.below (Nat.le_refl _)
                    obtain ⟨ad, rfl, hadl, hce⟩ := hrd.cell q hlt
                    have hld := hrd.load hlt
                    have HOk := Lib.hid (hrd.ok q hlt)
                    clear hadl hce hrd
                    rcases hM : applyM (runM m 50 M q) (entOf (m q)) (50 + q) 0 with ⟨M', ⟨b, cn, ag⟩, kd⟩
                    have HM := Lib.hid hM
                    clear hM
                    go_wp2_with (first | (go_at_call 15; go_loud (with_reducible refine (deed_any m q HOk.out wr).mono ?_); go_loud (rintro er w5 ⟨A5, n5, c5, rfl, hr5, hb5⟩); have HR5 := Lib.hid hr5; have HB5 := Lib.hid hb5; clear hr5 hb5) | fail)
                    with_reducible refine (hInv.out.step hlt2 hk20 HB5.out A5 n5 c5 HR5.out HM.out).mono ?_
                    rintro er z1 ⟨v1, rfl, hv1, ht1⟩
                    have HV1 := Lib.hid hv1
                    obtain ⟨hst1, hkn1, hbx1⟩ := box_done z1 b cn ag
                    have H5 : Hid (T3m w _ s t u M k m j q z1.heap.size) := Lib.hid (T3.box ht1 hbx1 ⟨Nat.le_refl _, by simp⟩)
                    have HK5 := Lib.hid hkn1
                    clear hv1 ht1 hbx1 hkn1 HR5 HB5 hInv hld
                    go_upto_region 22 with fail
                    obtain ⟨G1, hG1⟩ : ∃ g, g = z1.heap.size := ⟨_, rfl⟩
                    rw [← hG1] at H5 HK5 ⊢
                    generalize (z1.alloc (.cells #[.int .i64 0, .int .i64 0, .bool false] 25)).setRow G1 #[.int .i64 b, .int .i64 cn, .bool ag] = X1 at H5 HK5 ⊢
                    clear hst1 hG1
                    have hld := (HR2.out.ext H5.out.below (Nat.le_refl _)).load hlt
                    go_wp2_with (first | (go_at_call 15; go_loud (with_reducible refine (deed_any m q HOk.out X1).mono ?_); go_loud (rintro er w5 ⟨A5, n5, c5, rfl, hr5, hb5⟩); have HR5 := Lib.hid hr5; have HB5 := Lib.hid hb5; clear hr5 hb5) | fail)
                    with_reducible refine (H5.out.step hlt2 hk20 HB5.out A5 n5 c5 HR5.out HM.out).mono ?_
                    rintro er z2 ⟨v2, rfl, hv2, ht2, hu2⟩
                    have HV2 := Lib.hid hv2
                    obtain ⟨hst2, hkn2, hbx2⟩ := box_done z2 b cn ag
                    have H6 : Hid (T3 w _ s t u M k m j (q + 1)) := Lib.hid ((Th.ext ht2 hbx2).less (K' := fun _ => False) (fun _ h => h.elim))
                    have hk1 := ((HK5.out.ext HB5.out).turned hu2 (fun hx => hx.2 rfl)).ext hbx2
                    have hl1 := ldD_bk hk1
                    have hl2 := ldD_bk hkn2
                    clear hv2 ht2 hbx2 hkn2 hu2 HR5 HB5 hld hk1 HK5 H5
                    go_upto_region 23 with fail
                    obtain ⟨G2, hG2⟩ : ∃ g, g = z2.heap.size := ⟨_, rfl⟩
                    rw [← hG2] at H6 hl1 hl2 ⊢
                    generalize (z2.alloc (.cells #[.int .i64 0, .int .i64 0, .bool false] 25)).setRow G2 #[.int .i64 b, .int .i64 cn, .bool ag] = X2 at H6 hl1 hl2 ⊢
                    clear hst2 hG2
                    have HLx := Lib.hid (ErrLaid.below HLd.out H6.out.below)
                    have HKd : Hid (∀ u v, ErrV2 u kd → Below X2.heap.size X2 v → Calls Tryz.prog 13 #[u] v fun e w' => e = .returned (.int .i64 kd) ∧ Below X2.heap.size X2 w') := fun u v hu hv =>
                      (kindAny hu v (ErrLaid.below HLx.out hv)).mono fun er w' h => ⟨h.1, hv.trans (below_le hv.size h.2)⟩
                    have hne := fun v => ne_done b cn ag v
                    have hgu := fun x y v => gn_done x y #[.int .i64 b, .int .i64 cn, .bool ag] #[.int .i64 b, .int .i64 cn, .bool ag] v
                    go_wp2_with (first | (go_at_call 13; (first | (with_reducible refine (HKd.out v1 _ HV1.out (Below.refl _ _)).mono ?_; rintro er y5 ⟨rfl, hy5⟩; have HY5 := Lib.hid hy5; clear hy5) | (with_reducible refine (HKd.out v2 _ HV2.out HY5.out).mono ?_; rintro er y6 ⟨rfl, hy6⟩; have HY6 := Lib.hid hy6; clear hy6))) | fail)
                    go_roundw
                    case rel => exact ⟨q + 1, by omega, by omega, by go_num, (H6.out.ext HY6.out).less (fun _ h => .inl h)⟩
                    case measure => simp [intOf]; omega
                  · rw [decide_eq_false hin]
                    obtain rfl : q = j := by have := HJ.out; omega
                    have HTt : Hid (∀ v, Below wr.heap.size wr v → Calls Tryz.prog 23 #[.pointer (some ⟨s, 0, none⟩), .pointer (some ⟨t, 0, none⟩)] v fun e w' => e = .returned (.bool true) ∧ Below wr.heap.size wr w') := fun v hv =>
                      (((hInv.out.ext hv).twins (by omega) (by omega))).mono fun er w' h => ⟨h.1, hv.trans (below_le hv.size h.2)⟩
                    have HTu : Hid (∀ v, Below wr.heap.size wr v → Calls Tryz.prog 23 #[.pointer (some ⟨s, 0, none⟩), .pointer (some ⟨u, 0, none⟩)] v fun e w' => e = .returned (.bool true) ∧ Below wr.heap.size wr w') := fun v hv =>
                      (((hInv.out.ext hv).twins2 (by omega) (by omega))).mono fun er w' h => ⟨h.1, hv.trans (below_le hv.size h.2)⟩
                    have HB := Lib.hid hInv.out.below
                    have HSr : Hid (∀ v, Below wr.heap.size wr v → Calls Tryz.prog 3 #[] v fun e w' => e = .returned (.bool true) ∧ Below wr.heap.size wr w') := fun v hv =>
                      (stRuns_any v (ErrLaid.below (ErrLaid.below HLd.out HB.out) hv)).mono fun er w' h => ⟨h.1, hv.trans (below_le hv.size h.2)⟩
                    clear hin hInv HJ
                    go_wp2_with (first | (go_at_call 23; (first | (with_reducible refine (HTt.out _ (Below.refl _ _)).mono ?_; rintro er y1 ⟨rfl, hy1⟩; have HY1 := Lib.hid hy1; clear hy1) | (with_reducible refine (HTu.out _ HY1.out).mono ?_; rintro er y2 ⟨rfl, hy2⟩; have HY2 := Lib.hid hy2; clear hy2))) | (go_at_call 3; with_reducible refine (HSr.out _ HY2.out).mono ?_; rintro er y3 ⟨rfl, hy3⟩; have HY3 := Lib.hid hy3; clear hy3) | fail)
                    go_ret
                    exact ⟨rfl, HB.out.trans (below_le HB.out.size HY3.out)⟩
end Go.Proofs.YtjodiieeocaipaaGreatDoor

/-
  stavelaw21: StateTwins, over whatever came.
-/
namespace Go.Proofs.YtjodiieeocaipaaGreatDoor
open Go.ChangeShapes Go.WideShapes Go.ChangeAt Go.RowKit
set_option maxRecDepth 100000 in
theorem stateTwins_any {H : Type} {enc : TypeId × Value → H} {base : Nat} {v0 v1 : Value} {d0 d1 : DataW H} {p0 p1 : List MemPlace} (w : World) (hl : ErrLaid w) (h0 : Came enc w base 39 v0 d0 p0) (h1 : Came enc w base 39 v1 d1 p1) :
    Calls Tryz.prog 8 #[v0, v1] w fun er w' => er = .returned (.bool true) ∧ Below w.heap.size w w' := by
  obtain ⟨A, n, c, l, rfl, hr⟩ := h0.deeds
  obtain ⟨B, m, d, q, rfl, hq⟩ := h1.deeds
  exact stTwins_any A n c l B m d q w hr hq hl
end Go.Proofs.YtjodiieeocaipaaGreatDoor
