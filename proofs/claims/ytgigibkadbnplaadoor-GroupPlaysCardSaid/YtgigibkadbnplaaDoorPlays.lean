/-
  The walk of the law GroupPlays.
-/
import Derived.Test.YtgigibkadbnplaaDoorPlaysSet
import Derived.Deep.WholeRow
import Derived.Deep.CutRange
namespace Go.Proofs.YtgigibkadbnplaaDoor
open Go.RowKit Go.Maps

def ldQ (v : Value) : Sem Value := Instr.loadAt 43 v
theorem ldQ_eq (v : Value) : Instr.loadAt 43 v = ldQ v := rfl
def stQ (v u : Value) : Sem Unit := Instr.storeAt 43 v u
theorem stQ_eq (v u : Value) : Instr.storeAt 43 v u = stQ v u := rfl
theorem size_q : (Tryd.prog.info? 43).map (·.size) = some 6 := by kernel_rfl
theorem ldQ_at {w : World} {a : Addr} {q : AskV} (h : ∀ j u, q.cells[j]? = some u → w.cell? (a.add j) = some u) : (ldQ (.pointer (some a))).run Tryd.prog w = .ok (.agg #[.int .i64 q.kind, .int .i64 q.g, .int .i64 q.t, .int .i64 q.p, .int .i64 q.o, .string q.raw]) w := by
  have hl : (loadCells a 6).run Tryd.prog w = .ok q.cells.toArray w := run_loadCells_list (P := Tryd.prog) w a q.cells h
  have hi := size_q
  cases hq : Tryd.prog.info? 43 with
  | none => simp [hq] at hi
  | some i =>
    have hs : i.size = 6 := by simpa [hq] using hi
    have hagg : (isAgg 43).run Tryd.prog w = .ok true w := by
      unfold isAgg
      rw [Sem.run_bind, run_underlying Tryd.underlying43 w]
      rfl
    unfold ldQ
    simp [Instr.loadAt, Instr.sureAddr, loadVar, Sem.run_bind, hagg, sizeOf, typeInfo, hq, hs, hl]
    rfl
theorem stQ_new (w : World) (q : AskV) : (stQ (.pointer (some ⟨w.heap.size, 0, none⟩)) (.agg #[.int .i64 q.kind, .int .i64 q.g, .int .i64 q.t, .int .i64 q.p, .int .i64 q.o, .string q.raw])).run Tryd.prog (w.alloc (.cells #[.int .i64 0, .int .i64 0, .int .i64 0, .int .i64 0, .int .i64 0, .string ⟨#[]⟩] 43)) = .ok () (w.alloc (.cells #[.int .i64 q.kind, .int .i64 q.g, .int .i64 q.t, .int .i64 q.p, .int .i64 q.o, .string q.raw] 43)) := by
  exact run_storeAt_new w 43 _ _ size_q rfl (all_oneCell_toArray (cs := q.cells) (fun u hu => by
    unfold AskV.cells at hu
    simp only [List.mem_cons, List.mem_nil_iff, or_false] at hu
    rcases hu with rfl | rfl | rfl | rfl | rfl | rfl <;> rfl))
attribute [local go_sem ↓] ldQ_eq stQ_eq
theorem Grp.drew1 {w : World} {g b : Nat} {D : DataW Unit} (h : Grp w g b D) : Grp w.drew g b D := h.drawn 1
theorem RefG.drew1 {w : World} {B rg : Nat} {A : Option Addr} {c : Nat} {l : List Mk} (h : RefG w B rg A c l) : RefG w.drew B rg A c l := h.drawn 1

set_option maxRecDepth 100000 in
set_option maxHeartbeats 8000000 in
theorem groupPlays_any {H : Type} {enc : TypeId × Value → H} {base : Nat} {v0 : Value} {d0 : DataW H} {p0 : List MemPlace} (w : World) (hE : ErrLaid w) (h0 : Came enc w base 37 v0 d0 p0) :
    Calls Tryd.prog 5 #[v0] w fun e w' => e = .returned (.bool true) ∧ Below w.heap.size w w' := by
  obtain ⟨A0, n, c0, l0, rfl, hrd⟩ := h0.asks
  clear h0
  have hcap := hrd.cap
  have hbig := hrd.big
  have HRD := Lib.hid hrd
  have HE := Lib.hid hE
  have hN := Lib.hid (new_any w)
  clear hrd hE
  go_enter Tryd.func5, Tryd.ntmps5
  go_wp2_with fail
  refine hN.out.mono ?_
  rintro e w1 ⟨rfl, hG, hb1⟩
  clear hN
  have hgl := hG.bk.lt
  obtain ⟨g, hg⟩ : ∃ g, g = w.heap.size + 1 := ⟨_, rfl⟩
  obtain ⟨b, hbw⟩ : ∃ b, b = w.heap.size := ⟨_, rfl⟩
  have hR : RefG (w1.alloc (.cells #[.slice none 0 0] 41)) (w1.heap.size + 1) w1.heap.size none 0 [] := ⟨Bk.made w1 _ _, OwnM.nil _ _, fun k hk => by cases hk⟩
  have hG1 := hG.ext (below_new w1 (.cells #[.slice none 0 0] 41))
  have hB1 := hb1.trans (below_le hb1.size (below_new w1 (.cells #[.slice none 0 0] 41)))
  rw [← hg, ← hbw] at hG1
  rw [← hg] at hgl ⊢
  have HG := Lib.hid hG1
  have HR := Lib.hid hR
  have HB1 := Lib.hid hB1
  have HN : Hid (w.heap.size ≤ b ∧ b < w1.heap.size ∧ g < w1.heap.size ∧ w.heap.size ≤ w1.heap.size) := Lib.hid (by omega)
  clear hg hbw hG hb1 hG1 hR hB1 hgl
  go_wp2_with fail
  obtain ⟨rg, hrg⟩ : ∃ rg, rg = w1.heap.size := ⟨_, rfl⟩
  rw [← hrg] at HR HN ⊢
  have HRW : Hid (rg + 1 ≤ (w1.alloc (.cells #[.slice none 0 0] 41)).heap.size) := Lib.hid (by simp; omega)
  clear hrg
  generalize (w1.alloc (.cells #[.slice none 0 0] 41)) = w2 at HG HR HB1 HRW ⊢
  go_loopw [5] (fun i wr => ∃ (k : Nat) (D : DataW Unit) (A : Option Addr) (c : Nat) (l : List Mk), k ≤ n ∧ k ≤ 60 ∧ i = .int .i64 k ∧ Grp wr g b D ∧ RefG wr (rg + 1) rg A c l ∧ Sim D l ∧ l.length ≤ 32 ∧ rg + 1 ≤ wr.heap.size ∧ Below w.heap.size w wr) (fun i _ => n - (intOf i).toNat)
  case atStart => exact ⟨0, _, none, 0, [], by omega, by omega, rfl, HG.out, HR.out, sim_nil, by simp, HRW.out, HB1.out⟩
  case round =>
    obtain ⟨k, D, A, c, l, hkn, hk60, rfl, hG, hR, hS, hl, hW, hBw⟩ := hrel
    clear HG HR HB1 HRW
    have HG := Lib.hid hG
    have HR := Lib.hid hR
    have HS := Lib.hid hS
    have HL := Lib.hid hl
    have HW := Lib.hid hW
    have HBw := Lib.hid hBw
    clear hG hR hS hl hW hBw
    by_cases hin : k < n ∧ k < 60
    · obtain ⟨hlt, hlt6⟩ := hin
      have hi : (k : Int) < n := by omega
      have hi6 : (k : Int) < 60 := by omega
      obtain ⟨ad, rfl, hadl, hce⟩ := HRD.out.cell k hlt
      have hok := Lib.hid (HRD.out.ok k hlt)
      have hld : (ldQ (.pointer (some (ad.add (k * 6))))).run Tryd.prog wr = _ := ldQ_at (q := l0 k) (fun j u hu => by
        rw [add_add']
        exact (HBw.out.cell (by rw [add_block]; exact hadl)).trans (hce j u hu))
      have hBk := Bk.made wr 43 (l0 k).cells.toArray
      have HCE := Lib.hid hce
      clear hce
      generalize l0 k = q at hld hBk hok HCE
      have hst := stQ_new wr q
      clear hBk
      go_upto_region 8 with fail
      clear hst hld
      obtain ⟨⟨hk1, hk2⟩, ⟨hg1, hg2⟩, ⟨ht1, ht2⟩, ⟨hp1, hp2⟩, ⟨ho1, ho2⟩, hraw⟩ := hok.out
      have hnew := below_new wr (.cells #[.int .i64 q.kind, .int .i64 q.g, .int .i64 q.t, .int .i64 q.p, .int .i64 q.o, .string q.raw] 43)
      have hG4 := HG.out.ext hnew
      have hR4 := HR.out.ext hnew
      have hB4 := HBw.out.trans (below_le HBw.out.size hnew)
      have hQ4 : Bk (wr.alloc (.cells #[.int .i64 q.kind, .int .i64 q.g, .int .i64 q.t, .int .i64 q.p, .int .i64 q.o, .string q.raw] 43)) wr.heap.size 43 #[.int .i64 q.kind, .int .i64 q.g, .int .i64 q.t, .int .i64 q.p, .int .i64 q.o, .string q.raw] := Bk.made wr _ _
      have hle4 : w.heap.size ≤ wr.heap.size := HBw.out.size
      have HNQ : Hid (w.heap.size ≤ wr.heap.size ∧ rg + 1 ≤ wr.heap.size ∧ wr.heap.size < (wr.alloc (.cells #[.int .i64 q.kind, .int .i64 q.g, .int .i64 q.t, .int .i64 q.p, .int .i64 q.o, .string q.raw] 43)).heap.size) := Lib.hid ⟨hle4, HW.out, by simp⟩
      clear hnew HG HR HBw HW hle4 HCE hok
      generalize (wr.alloc (.cells #[.int .i64 q.kind, .int .i64 q.g, .int .i64 q.t, .int .i64 q.p, .int .i64 q.o, .string q.raw] 43)) = w4 at hG4 hR4 hB4 hQ4 HNQ ⊢
      generalize wr.heap.size = qb at hQ4 HNQ ⊢
      obtain ⟨K, G, T, P, O, raw⟩ := q
      dsimp only at hQ4 hk1 hk2 hg1 hg2 ht1 ht2 hp1 hp2 ho1 ho2 hraw
      obtain ⟨a1, hwa⟩ : ∃ a, wd (wn G) = a := ⟨_, rfl⟩
      obtain ⟨t1, hwt⟩ : ∃ a, wd (wn T) = a := ⟨_, rfl⟩
      have ha30 : a1.size ≤ 30 := by rw [← hwa, wd_size]; omega
      have ht30 : t1.size ≤ 30 := by rw [← hwt, wd_size]; omega
      have hwG := fun w => word_any G w hg1 hg2
      have hwT := fun w => word_any T w ht1 ht2
      rw [hwa] at hwG
      rw [hwt] at hwT
      have HWG := Lib.hid hwG
      have HWT := Lib.hid hwT
      have HG4 := Lib.hid hG4
      have HR4 := Lib.hid hR4
      have HB4 := Lib.hid hB4
      have HQ4 := Lib.hid hQ4
      have FS : Hid (∀ w', Below w4.heap.size w4 w' → (Below w4.heap.size w4 w' ∧ w'.cell? ⟨qb, 1, none⟩ = some (.int .i64 G) ∧ w'.cell? ⟨qb, 2, none⟩ = some (.int .i64 T))) := Lib.hid (fun w' hb => ⟨hb, (HQ4.out.ext hb).cell 1, (HQ4.out.ext hb).cell 2⟩)
      have hq0 := Below.refl w4.heap.size w4
      clear hwG hwT hwa hwt hG4 hR4 hB4 hQ4
      go_region_held3 (fun w' => Below w4.heap.size w4 w' ∧ w'.cell? ⟨qb, 1, none⟩ = some (.int .i64 G) ∧ w'.cell? ⟨qb, 2, none⟩ = some (.int .i64 T)) (first | exact FS.out _ hq6 | exact FS.out _ hq5 | exact FS.out _ (below_drew1 hq0) | exact FS.out _ hq0)
        (first | (go_at_call 16; (with_reducible refine (HWG.out _).mono ?_); rintro e w5 ⟨rfl, hb5⟩; have hq5 : Below w4.heap.size w4 w5 := (below_drew1 hq0).trans (below_le (below_drew1 hq0).size hb5); clear hb5) | (go_at_call 16; (with_reducible refine (HWT.out _).mono ?_); rintro e w6 ⟨rfl, hb6⟩; have hq6 : Below w4.heap.size w4 w6 := hq5.trans (below_le hq5.size hb6); clear hb6) | fail)
      have HG6 := Lib.hid (HG4.out.ext hq6)
      have HR6 := Lib.hid (HR4.out.ext hq6)
      have HB6 := Lib.hid (HB4.out.trans (below_le HB4.out.size hq6))
      have hQ6 := HQ4.out.ext hq6
      have hc5 : w6.cell? ⟨qb, 5, none⟩ = some (.string raw) := hQ6.cell 5
      have hbe : b ≠ qb ∧ b < rg + 1 ∧ b ≠ rg ∧ g ≠ rg ∧ rg ≠ qb ∧ w.heap.size ≤ rg := by have h1 := HNQ.out; have h2 := HN.out; omega
      have HBE := Lib.hid hbe
      have hW6 : rg + 1 ≤ w6.heap.size := by have h1 := HNQ.out; have h2 := hq6.size; omega
      have HW6 := Lib.hid hW6
      have HQ6 := Lib.hid hQ6
      clear HG4 HR4 HB4 HQ4 FS hq0 hq5 hq6 HWG HWT HNQ hQ6 hbe hW6
      rename_i hheld
      clear hheld
      have hse := str_eq raw ⟨#[]⟩
      have hrawb : raw.size ≤ 9223372036854775807 := hraw
      by_cases hre : raw = ⟨#[]⟩
      case' pos =>
        rw [decide_eq_true hre] at hse
      case' neg =>
        rw [decide_eq_false hre] at hse
        have hse : raw.toList.isEmpty = false := by
          cases h : raw.toList.isEmpty
          · rfl
          · rw [List.isEmpty_iff.1 h, Lib.toList_data] at hse
            revert hse
            decide
        obtain ⟨nn, hnn⟩ : ∃ nn, nn = min raw.size 30 := ⟨_, rfl⟩
        have hmin : min (raw.size : Int) 30 = (nn : Int) := by omega
        have hn30 : nn ≤ 30 := by omega
        have hns : nn ≤ raw.size := by omega
        have hnt : (nn : Int).toNat = nn := Int.toNat_natCast nn
        clear ha30
        obtain ⟨a1, hx⟩ : ∃ s, raw.extract 0 nn = s := ⟨_, rfl⟩
        have ha30 : a1.size ≤ 30 := by rw [← hx, ByteArray.size_extract]; omega
        clear hnn
      all_goals
        go_upto_region 11 with fail
        clear hse hc5 hre
        (try clear hmin)
        (try clear hnt hx)
        have ham : a1.size ≤ maxLen := by unfold maxLen; omega
        have htm : t1.size ≤ maxLen := by unfold maxLen; omega
        have hpw : (Lit.int .i64 P).wf = true := wf_of hp1 hp2
        have how : (Lit.int .i64 O).wf = true := wf_of ho1 ho2
        have HAM := Lib.hid (And.intro ham (And.intro htm (And.intro hpw how)))
        clear ham htm hpw how hraw hrawb hk1 hk2 hg1 hg2 ht1 ht2 hp1 hp2 ho1 ho2
        have HWN : Hid (∀ w', Below w6.heap.size w6 w' → Grp w' g b D ∧ RefG w' (rg + 1) rg A c l ∧ Below w.heap.size w w' ∧ rg + 1 ≤ w'.heap.size ∧ Bk w' qb 43 #[.int .i64 K, .int .i64 G, .int .i64 T, .int .i64 P, .int .i64 O, .string raw]) :=
          Lib.hid (fun w' hb => ⟨HG6.out.ext hb, HR6.out.ext hb, HB6.out.trans (below_le HB6.out.size hb), Nat.le_trans HW6.out hb.size, HQ6.out.ext hb⟩)
        clear HG6 HR6 HB6 HW6 HQ6
        have hkc : K = 1 ∨ K = 3 ∨ ((K == 1) = false ∧ (K == 3) = false) := by
          by_cases h1 : K = 1
          · exact .inl h1
          · by_cases h3 : K = 3
            · exact .inr (.inl h3)
            · exact .inr (.inr ⟨by simp [h1], by simp [h3]⟩)
        rcases hkc with rfl | rfl | ⟨hk1, hk3⟩
        case' inl =>
          go_upto_region 14 with (first | (go_at_call 13; (with_reducible refine (name_any a1 (by omega) _).mono ?_); rintro e w7 ⟨rfl, hb7⟩; obtain ⟨hG7, hR7, hB7, hW7, hQ7⟩ := HWN.out w7 hb7; have hc0 : w7.cell? ⟨qb, 0, none⟩ = some (.int .i64 1) := hQ7.cell 0; have HG7 := Lib.hid hG7; have HR7 := Lib.hid hR7; have HB7 := Lib.hid hB7; have HW7 := Lib.hid hW7; have HQ7 := Lib.hid hQ7; clear hG7 hR7 hB7 hW7 hQ7 hb7 HWN) | (go_at_call 17; (with_reducible refine (refName_any a1 (by omega) _).mono ?_); rintro e _ ⟨rfl, rfl⟩; rename_i w7) | fail)
          obtain ⟨v, code, D', l', hSB⟩ := set_both g b (rg + 1) rg D A c l a1 t1 P O HS.out HG7.out.own.isMap (HS.out.size HG7.out) HL.out HAM.out.1 HAM.out.2.1 HAM.out.2.2.1 HAM.out.2.2.2
          have SB := Lib.hid hSB
          have FS : Hid (∀ w', Bk w' qb 43 #[.int .i64 1, .int .i64 G, .int .i64 T, .int .i64 P, .int .i64 O, .string raw] → (w'.cell? ⟨qb, 3, none⟩ = some (.int .i64 P) ∧ w'.cell? ⟨qb, 4, none⟩ = some (.int .i64 O))) := Lib.hid (fun w' h => ⟨h.cell 3, h.cell 4⟩)
          clear hSB
          go_region_held3 (fun w' => w'.cell? ⟨qb, 3, none⟩ = some (.int .i64 P) ∧ w'.cell? ⟨qb, 4, none⟩ = some (.int .i64 O)) (first | exact FS.out _ HQX.out | exact FS.out _ HQ9.out | exact FS.out _ HQ8.out | exact FS.out _ HQ7.out | exact FS.out _ HQ7.out.drawn1)
            (first | (go_at_call 9; (with_reducible refine (SB.out.grp w7.drew HG7.out.drew1).mono ?_); rintro e w8 ⟨rfl, hG8, hg8⟩; have HG8 := Lib.hid hG8; have HQ8 := Lib.hid (HQ7.out.drawn1.grown hg8 (fun e => HBE.out.1 (Option.some.inj e).symm)); have HR8 := Lib.hid (HR7.out.drew1.keep hg8 HBE.out.2.1 HBE.out.2.2.1); have HB8 := Lib.hid (below_grown (below_drew1 HB7.out) (below_drew1 HB7.out).size hg8 HN.out.1); have HW8 := Lib.hid (Nat.le_trans (show rg + 1 ≤ w7.drew.heap.size from HW7.out) hg8.size); clear hG8 hg8) | (go_at_call 18; (with_reducible refine (SB.out.kind _ (HE.out.below HB8.out)).mono ?_); rintro e w9 ⟨rfl, hb9⟩; have HG9 := Lib.hid (HG8.out.ext hb9); have HQ9 := Lib.hid (HQ8.out.ext hb9); have HR9 := Lib.hid (HR8.out.ext hb9); have HB9 := Lib.hid (HB8.out.trans (below_le HB8.out.size hb9)); have HW9 := Lib.hid (Nat.le_trans HW8.out hb9.size); clear hb9) | (go_at_call 19; (with_reducible refine (SB.out.ref _ HR9.out HW9.out).mono ?_); rintro e wX ⟨rfl, ⟨A', c', hRX⟩, hgX⟩; have HGX := Lib.hid (HG9.out.keep hgX (fun e => HBE.out.2.2.1 (Option.some.inj e)) (fun e => HBE.out.2.2.2.1 (Option.some.inj e))); have HQX := Lib.hid (HQ9.out.grown hgX (fun e => HBE.out.2.2.2.2.1 (Option.some.inj e).symm)); have HRX := Lib.hid hRX; have HBX := Lib.hid (below_grown HB9.out HB9.out.size hgX HBE.out.2.2.2.2.2); have HWX := Lib.hid (Nat.le_trans HW9.out hgX.size); clear hRX hgX) | fail)
          all_goals
            have HSX := Lib.hid SB.out.sim
            have HLX := Lib.hid SB.out.le
            have HKX : Hid (∃ K', Bk wX qb 43 #[.int .i64 K', .int .i64 G, .int .i64 T, .int .i64 P, .int .i64 O, .string raw]) := Lib.hid ⟨_, HQX.out⟩
            clear SB FS HG8 HQ8 HR8 HB8 HW8 HG9 HQ9 HR9 HB9 HW9 HG7 HQ7 HR7 HB7 HW7 HQX HS HL
        case' inr.inl =>
          go_upto_region 16 with (first | (go_at_call 13; (with_reducible refine (name_any a1 (by omega) _).mono ?_); rintro e w7 ⟨rfl, hb7⟩; obtain ⟨hG7, hR7, hB7, hW7, hQ7⟩ := HWN.out w7 hb7; have hc0 : w7.cell? ⟨qb, 0, none⟩ = some (.int .i64 3) := hQ7.cell 0; have HG7 := Lib.hid hG7; have HR7 := Lib.hid hR7; have HB7 := Lib.hid hB7; have HW7 := Lib.hid hW7; have HQ7 := Lib.hid hQ7; clear hG7 hR7 hB7 hW7 hQ7 hb7 HWN) | (go_at_call 17; (with_reducible refine (refName_any a1 (by omega) _).mono ?_); rintro e _ ⟨rfl, rfl⟩; rename_i w7) | fail)
          have hF := forget_any g b D t1 w7 HG7.out HAM.out.2.1 (by have := HS.out.size HG7.out; have := HL.out; omega)
          have HF := Lib.hid hF
          have HSL := Lib.hid (HS.out.less HG7.out HAM.out.2.1)
          clear hF
          go_upto_region 17 with (first | (go_at_call 12; (with_reducible refine HF.out.mono ?_); rintro e w8 ⟨rfl, hG8, hg8⟩; rw [HS.out.size HG7.out, HSL.out.size hG8]; have HG8 := Lib.hid hG8; have HQ8 := Lib.hid (HQ7.out.grown hg8 (fun e => HBE.out.1 (Option.some.inj e).symm)); have HR8 := Lib.hid (HR7.out.keep hg8 HBE.out.2.1 HBE.out.2.2.1); have HB8 := Lib.hid (below_grown HB7.out HB7.out.size hg8 HN.out.1); have HW8 := Lib.hid (Nat.le_trans HW7.out hg8.size); clear hG8 hg8) | (go_at_call 20; (with_reducible refine (refForget_any (rg + 1) rg A c l t1 _ HR8.out HW8.out (by have := HL.out; omega)).mono ?_); rintro e wX ⟨rfl, ⟨A', c', hRX⟩, hgX⟩; have HGX := Lib.hid (HG8.out.keep hgX (fun e => HBE.out.2.2.1 (Option.some.inj e)) (fun e => HBE.out.2.2.2.1 (Option.some.inj e))); have HQX := Lib.hid (HQ8.out.grown hgX (fun e => HBE.out.2.2.2.2.1 (Option.some.inj e).symm)); have HRX := Lib.hid hRX; have HBX := Lib.hid (below_grown HB8.out HB8.out.size hgX HBE.out.2.2.2.2.2); have HWX := Lib.hid (Nat.le_trans HW8.out hgX.size); clear hRX hgX) | fail)
          have HSX := Lib.hid HSL.out
          have HLX : Hid ((lessM t1 l).length ≤ 32) := Lib.hid (Nat.le_trans (lessM_le t1 l) HL.out)
          have HKX : Hid (∃ K', Bk wX qb 43 #[.int .i64 K', .int .i64 G, .int .i64 T, .int .i64 P, .int .i64 O, .string raw]) := Lib.hid ⟨_, HQX.out⟩
          clear HF HSL HG8 HQ8 HR8 HB8 HW8 HG7 HQ7 HR7 HB7 HW7 HQX HS HL
          generalize lessM t1 l = l' at HRX HSX HLX
          generalize lessOf t1 D = D' at HGX HSX
        case' inr.inr =>
          go_upto_region 17 with (first | (go_at_call 13; (with_reducible refine (name_any a1 (by omega) _).mono ?_); rintro e w7 ⟨rfl, hb7⟩; obtain ⟨hG7, hR7, hB7, hW7, hQ7⟩ := HWN.out w7 hb7; have hc0 : w7.cell? ⟨qb, 0, none⟩ = some (.int .i64 K) := hQ7.cell 0; have HG7 := Lib.hid hG7; have HR7 := Lib.hid hR7; have HB7 := Lib.hid hB7; have HW7 := Lib.hid hW7; have HQ7 := Lib.hid hQ7; clear hG7 hR7 hB7 hW7 hQ7 hb7 HWN) | (go_at_call 17; (with_reducible refine (refName_any a1 (by omega) _).mono ?_); rintro e _ ⟨rfl, rfl⟩; rename_i w7) | fail)
          have HKX : Hid (∃ K', Bk w7 qb 43 #[.int .i64 K', .int .i64 G, .int .i64 T, .int .i64 P, .int .i64 O, .string raw]) := Lib.hid ⟨_, HQ7.out⟩
          have HGX := HG7
          have HRX := HR7
          have HBX := HB7
          have HWX := HW7
          have HSX := HS
          have HLX := HL
          clear HG7 HR7 HB7 HW7 HS HL HQ7
          obtain ⟨wX, e⟩ : ∃ x, x = w7 := ⟨_, rfl⟩
          subst e
          obtain ⟨D', e⟩ : ∃ x, x = D := ⟨_, rfl⟩
          subst e
          obtain ⟨l', e⟩ : ∃ x, x = l := ⟨_, rfl⟩
          subst e
          obtain ⟨A', e⟩ : ∃ x, x = A := ⟨_, rfl⟩
          subst e
          obtain ⟨c', e⟩ : ∃ x, x = c := ⟨_, rfl⟩
          subst e
        all_goals
          obtain ⟨K', hK'⟩ := HKX.out
          have hc3 : wX.cell? ⟨qb, 3, none⟩ = some (.int .i64 P) := hK'.cell 3
          have hM := mark_any g b D' a1 t1 P wX HGX.out HAM.out.1 HAM.out.2.1 HAM.out.2.2.1
          have hRM := refMark_any (rg + 1) rg A' c' l' a1 t1 P wX HRX.out
          rw [HSX.out.off_find HAM.out.1 HAM.out.2.1 HAM.out.2.2.1, HSX.out.has_find HAM.out.1 HAM.out.2.1 HAM.out.2.2.1] at hM
          generalize offM l' a1 t1 P = X at hM hRM
          generalize (findM l' a1 t1 P).isSome = Y at hM hRM
          have HM := Lib.hid hM
          have HRM := Lib.hid hRM
          clear hM hRM HKX hK' hc0
          go_upto_region 19 with (first | (go_at_call 10; (with_reducible refine HM.out.mono ?_); rintro e _ ⟨rfl, rfl⟩) | (go_at_call 21; (with_reducible refine HRM.out.mono ?_); rintro e wY ⟨rfl, hbY⟩; have HGY := Lib.hid (HGX.out.ext hbY); have HRY := Lib.hid (HRX.out.ext hbY); have HBY := Lib.hid (HBX.out.trans (below_le HBX.out.size hbY)); have HWY := Lib.hid (Nat.le_trans HWX.out hbY.size)) | fail)
          have HLN := len_any g b D' wY.drew HGY.out.drew1
          rw [HSX.out.size HGY.out] at HLN
          have HLN := Lib.hid HLN
          have hcr : wY.drew.cell? ⟨rg, 0, none⟩ = some (.slice A' l'.length c') := HRY.out.drew1.cell
          go_region_held3 (fun w' => w'.cell? ⟨rg, 0, none⟩ = some (.slice A' l'.length c')) (first | exact hcr) (first | (go_at_call 11; (with_reducible refine HLN.out.mono ?_); rintro e _ ⟨rfl, rfl⟩) | fail)
          all_goals
            go_wp2_with fail
            exact ⟨⟨k + 1, D', A', c', l', by omega, by omega, by go_num, HGY.out.drew1, HRY.out.drew1, HSX.out, HLX.out, HWY.out, below_drew1 HBY.out⟩, by simp [intOf]; omega⟩
    · rw [Decidable.not_and_iff_or_not] at hin
      have hcase : ¬ ((k : Int) < n) ∨ ((k : Int) < n ∧ ¬ ((k : Int) < 60)) := by omega
      clear hin hkn hk60 HG HR
      rcases hcase with hc1 | ⟨hc1, hc2⟩
      all_goals
        go_wp2_with fail
        refine (groupRuns_any _).mono ?_
        rintro e wz ⟨rfl, hz⟩
        go_wp2_with fail
        go_ret
        exact ⟨rfl, HBw.out.trans (below_le HBw.out.size hz)⟩
end Go.Proofs.YtgigibkadbnplaaDoor
