/-
  The walk of the law GroupLast.
-/
import Derived.Test.YtgigibkadbnplaaDoorLastMap
import Derived.Test.YtgigibkadbnplaaDoorTwin
import Derived.Test.YtgigibkadbnplaaDoorGrpAsk
import Derived.Deep.RegionHeld3
import Derived.Deep.CutRange
namespace Go.Proofs.YtgigibkadbnplaaDoor
open Go.RowKit Go.Maps
attribute [local go_sem ↓] ldL_eq

set_option maxRecDepth 100000 in
set_option maxHeartbeats 4000000 in
theorem groupLast_any {H : Type} {enc : TypeId × Value → H} {base : Nat} {v0 v1 : Value} {d0 d1 : DataW H} {p0 p1 : List MemPlace} (w : World) (hE : ErrLaid w) (h0 : Came enc w base 37 v0 d0 p0) (h1 : Came enc w base 3 v1 d1 p1) :
    Calls Tryd.prog 7 #[v0, v1] w fun e w' => e = .returned (.bool true) ∧ Below w.heap.size w w' := by
  obtain ⟨A, n, c, l, rfl, hrd⟩ := h0.asks
  obtain ⟨z, rfl, hz1, hz2⟩ := h1.int
  clear h0 h1
  have hcap := hrd.cap
  have hbig := hrd.big
  have HRD := Lib.hid hrd
  have HE := Lib.hid hE
  have hN := Lib.hid (new_any w)
  have hmm := @run_makeMap Tryd.prog
  clear hrd hE
  go_enter Tryd.func7, Tryd.ntmps7
  go_wp2_with fail
  refine hN.out.mono ?_
  rintro e w1 ⟨rfl, hG, hb1⟩
  clear hN
  obtain ⟨g, hg⟩ : ∃ g, g = w.heap.size + 1 := ⟨_, rfl⟩
  obtain ⟨b, hbw⟩ : ∃ b, b = w.heap.size := ⟨_, rfl⟩
  rw [← hg, ← hbw] at hG
  rw [← hg]
  have HB : Hid (w.heap.size ≤ b) := Lib.hid (by omega)
  have hgl := hG.bk.lt
  have hbl := hG.own.lt
  have hG2 := hG.ext (below_new w1 (.map #[] 0))
  have hb2 := hb1.trans (below_le hb1.size (below_new w1 (.map #[] 0)))
  have hE0 := World.ownsMap_made (H := Unit) w1 Tryd.prog 51 (plainElem Tryd.prog 3)
  have hml := hb1.size
  clear hg hbw hG hb1
  go_wp2_with fail
  obtain ⟨m, hm⟩ : ∃ m, m = w1.heap.size := ⟨_, rfl⟩
  rw [← hm] at hgl hbl hE0 hml ⊢
  have HML : Hid (w.heap.size ≤ m) := Lib.hid hml
  have HNE : Hid (b ≠ m ∧ g ≠ m) := Lib.hid (by omega)
  have HG := Lib.hid hG2
  have HO : Hid (Own3 (w1.alloc (.map #[] 0)) m (.map [])) := Lib.hid hE0
  have HB1 := Lib.hid hb2
  clear hm hgl hbl hE0 hml hG2 hb2 hmm
  generalize w1.alloc (.map #[] 0) = w2 at HG HO HB1 ⊢
  go_loopw [7] (fun i wr => ∃ (k : Nat) (D E : DataW Unit), k ≤ n ∧ k ≤ 80 ∧ i = .int .i64 k ∧ Grp wr g b D ∧ Own3 wr m E ∧ Same2 D E ∧ Below w.heap.size w wr) (fun i _ => n - (intOf i).toNat)
  case atStart => exact ⟨0, _, _, by omega, by omega, rfl, HG.out, HO.out, same2_nil, HB1.out⟩
  case round =>
    obtain ⟨k, D, E, hkn, hk80, rfl, hG, hO, hS, hBw⟩ := hrel
    clear HG HB1 HO
    have HG := Lib.hid hG
    have HO := Lib.hid hO
    have HS := Lib.hid hS
    have HBw := Lib.hid hBw
    clear hG hS hBw hO
    by_cases hin : k < n ∧ k < 80
    · obtain ⟨hlt, hlt4⟩ := hin
      have hi : (k : Int) < n := by omega
      have hi4 : (k : Int) < 80 := by omega
      obtain ⟨ad, rfl, hadl, hce⟩ := HRD.out.cell k hlt
      obtain ⟨_, ⟨hg1, hg2⟩, ⟨ht1, ht2⟩, ⟨hp1, hp2⟩, ⟨ho1, ho2⟩, _⟩ := HRD.out.ok k hlt
      have hadl' : (ad.add (k * 6)).block < w.heap.size := by rw [add_block]; exact hadl
      have cat : ∀ (w' : World), Below w.heap.size w w' → ∀ j u, 0 < j → (l k).cells[j]? = some u → w'.cell? ⟨(ad.add (k * 6)).block, (ad.add (k * 6)).off + j, none⟩ = some u := fun w' hb j u hj hu =>
        (hb.cell (p := ⟨(ad.add (k * 6)).block, (ad.add (k * 6)).off + j, none⟩) hadl').trans (by rw [← add_pos' _ _ hj, add_add']; exact hce j u hu)
      have c1 := cat wr HBw.out 1 _ (by omega) rfl
      have c2 := cat wr HBw.out 2 _ (by omega) rfl
      have c3 := cat wr HBw.out 3 _ (by omega) rfl
      have C4 : Hid (∀ w', Below w.heap.size w w' → w'.cell? ⟨(ad.add (k * 6)).block, (ad.add (k * 6)).off + 4, none⟩ = some (.int .i64 (l k).o)) := Lib.hid (fun w' hb => cat w' hb 4 _ (by omega) rfl)
      clear hce cat
      generalize (l k).g = G at hg1 hg2 c1
      generalize (l k).t = T at ht1 ht2 c2
      generalize (l k).p = P at hp1 hp2 c3
      generalize (l k).o = O at ho1 ho2 C4
      obtain ⟨a, hga, ha6⟩ : ∃ a : Nat, within G 0 5 = (a : Int) ∧ a < 6 := ⟨(within G 0 5).toNat, by have := within_in G 0 5 (by omega); omega, by have := within_in G 0 5 (by omega); omega⟩
      obtain ⟨t, hta, ht6⟩ : ∃ a : Nat, within T 0 5 = (a : Int) ∧ a < 6 := ⟨(within T 0 5).toNat, by have := within_in T 0 5 (by omega); omega, by have := within_in T 0 5 (by omega); omega⟩
      obtain ⟨p, hpa, hp4⟩ : ∃ a : Nat, within P 0 3 = (a : Int) ∧ a < 4 := ⟨(within P 0 3).toNat, by have := within_in P 0 3 (by omega); omega, by have := within_in P 0 3 (by omega); omega⟩
      obtain ⟨o, hoa, ho9⟩ : ∃ a : Nat, within O 0 999 = (a : Int) ∧ a ≤ 999 := ⟨(within O 0 999).toNat, by have := within_in O 0 999 (by omega); omega, by have := within_in O 0 999 (by omega); omega⟩
      have hwG := fun w => within_any G 0 5 w (by omega) (by omega) (by omega) hg1 hg2
      have hwT := fun w => within_any T 0 5 w (by omega) (by omega) (by omega) ht1 ht2
      have hwP := fun w => within_any P 0 3 w (by omega) (by omega) (by omega) hp1 hp2
      have hwO := fun w => within_any O 0 999 w (by omega) (by omega) (by omega) ho1 ho2
      rw [hga] at hwG
      rw [hta] at hwT
      rw [hpa] at hwP
      rw [hoa] at hwO
      have HwG := Lib.hid hwG
      have HwT := Lib.hid hwT
      have HwP := Lib.hid hwP
      have HwO := Lib.hid hwO
      clear hwG hwT hwP hwO hga hta hpa hoa
      go_upto_region 8 with fail
      have hq0 := Below.refl wr.heap.size wr
      have FS : Hid (∀ w', Below wr.heap.size wr w' → (Below wr.heap.size wr w' ∧ w'.cell? ⟨(ad.add (k * 6)).block, (ad.add (k * 6)).off + 1, none⟩ = some (.int .i64 G) ∧ w'.cell? ⟨(ad.add (k * 6)).block, (ad.add (k * 6)).off + 2, none⟩ = some (.int .i64 T) ∧ w'.cell? ⟨(ad.add (k * 6)).block, (ad.add (k * 6)).off + 3, none⟩ = some (.int .i64 P))) := Lib.hid (fun w' hb =>
        ⟨hb, (hb.cell (p := ⟨(ad.add (k * 6)).block, (ad.add (k * 6)).off + 1, none⟩) (Nat.lt_of_lt_of_le hadl' HBw.out.size)).trans c1, (hb.cell (p := ⟨(ad.add (k * 6)).block, (ad.add (k * 6)).off + 2, none⟩) (Nat.lt_of_lt_of_le hadl' HBw.out.size)).trans c2, (hb.cell (p := ⟨(ad.add (k * 6)).block, (ad.add (k * 6)).off + 3, none⟩) (Nat.lt_of_lt_of_le hadl' HBw.out.size)).trans c3⟩)
      clear c1 c2 c3
      go_cut [8] from 25 to 106 (fun s8 wx => s8 = .pointer (some ⟨wr.heap.size, 0, none⟩) ∧ Bk wx wr.heap.size 51 #[.int .i64 a, .int .i64 t, .int .i64 p] ∧ Below wr.heap.size wr wx)
      case first =>
        go_region_held3 (fun w' => Below wr.heap.size wr w' ∧ w'.cell? ⟨(ad.add (k * 6)).block, (ad.add (k * 6)).off + 1, none⟩ = some (.int .i64 G) ∧ w'.cell? ⟨(ad.add (k * 6)).block, (ad.add (k * 6)).off + 2, none⟩ = some (.int .i64 T) ∧ w'.cell? ⟨(ad.add (k * 6)).block, (ad.add (k * 6)).off + 3, none⟩ = some (.int .i64 P)) (first | exact FS.out _ (below_drew1 hq0) | exact FS.out _ hq0 | exact FS.out _ ((below_drew1 hq0).alloc (Nat.le_refl _) _) | go_keep)
          (first | (go_at_call 15; (with_reducible refine (HwG.out _).mono ?_); rintro e _ ⟨rfl, rfl⟩) | (go_at_call 15; (with_reducible refine (HwT.out _).mono ?_); rintro e _ ⟨rfl, rfl⟩) | (go_at_call 15; (with_reducible refine (HwP.out _).mono ?_); rintro e _ ⟨rfl, rfl⟩) | fail)
        all_goals (go_wp2_with fail; go_meet; exact ⟨rfl, (Bk.made wr 51 #[.int .i64 a, .int .i64 t, .int .i64 p]).drawn1, below_drew1 (below_new wr _)⟩)
      case rest =>
        obtain ⟨rfl, hbk, hq⟩ := hcut
        clear FS hq0
        have hblt := HG.out.own.lt
        have hglt := HG.out.bk.lt
        have hmlt := World.ownsMap.lt HO.out
        have HGc := Lib.hid (HG.out.ext hq)
        have HOc := Lib.hid (own3_keep HO.out (grown_of_below hq) (by simp))
        have hBc := HBw.out.trans (below_le HBw.out.size hq)
        have c4 := C4.out wc hBc
        have hwl := HBw.out.size
        obtain ⟨kb, hkb⟩ : ∃ kb, kb = wr.heap.size := ⟨_, rfl⟩
        rw [← hkb] at hbk hblt hglt hmlt hwl ⊢
        have HNK : Hid (kb ≠ b ∧ kb ≠ g ∧ kb ≠ m ∧ w.heap.size ≤ kb) := Lib.hid (by omega)
        clear hkb hblt hglt hmlt hq HG HO hwl HBw C4
        have hld := ldL_bk hbk
        have hlk := own3_look HOc.out ha6 ht6 hp4
        have hhas := HS.out.has a t p ha6 ht6 hp4
        have hsizeE := HS.out.size
        have hle := HS.out.le
        have hcase := three_way (Maps.has D (gk a t p)) (Maps.size D)
        rw [hhas] at hlk
        have hwa := word_any (a : Int)
        have hwt := word_any (t : Int)
        rw [wn_of ha6] at hwa
        rw [wn_of ht6] at hwt
        have HWA := Lib.hid hwa
        have HWT := Lib.hid hwt
        clear hwa hwt hhas
        have FS : Hid (∀ w', wc.grownBy w' (some b) → (wc.grownBy w' (some b) ∧ w'.cell? ⟨kb, 0, none⟩ = some (.int .i64 a) ∧ w'.cell? ⟨kb, 1, none⟩ = some (.int .i64 t) ∧ w'.cell? ⟨kb, 2, none⟩ = some (.int .i64 p))) := Lib.hid (fun w' hg => by
          have h' : Bk w' kb 51 #[.int .i64 a, .int .i64 t, .int .i64 p] := (hg.block kb hbk.lt (fun e => HNK.out.1 (Option.some.inj e))).trans hbk
          exact ⟨hg, h'.cell 0, h'.cell 1, h'.cell 2⟩)
        have HBK := Lib.hid hbk
        have HBC := Lib.hid hBc
        have hq0 := World.grownBy.refl wc (some b)
        have hq1 : wc.grownBy wc.drew (some b) := (grown_of_below (below_drew1 (Below.refl wc.heap.size wc))).but _
        clear hbk hBc
        rcases hcase with hh | ⟨hh, hl32⟩ | ⟨hh, hg32⟩
        case' inl =>
          have HK : Hid (∀ w, ErrLaid w → Calls Tryd.prog 18 #[.nilIface] w fun e w' => e = .returned (.int .i64 0) ∧ Below w.heap.size w w') := Lib.hid (fun w _ => kind_nil w)
          have HSET : Hid (∀ w3, Grp w3 g b D → Calls Tryd.prog 9 #[.pointer (some ⟨g, 0, none⟩), .string (wd a), .string (wd t), .int .i64 p, .int .i64 o] w3 fun e w' => e = .returned .nilIface ∧ Grp w' g b (D.put (gk a t p) (.lit (.int .i64 o))) ∧ w3.grownBy w' (some b)) :=
            Lib.hid (fun w3 h3 => set_ok g b D (wd a) (wd t) p o w3 h3 (wd_ok ha6) (wd_ok ht6) (by omega) (by omega) (by omega) (by omega) (.inl hh) (by omega))
          have HN := Lib.hid (same2_put HS.out ha6 ht6 hp4 o (.inl hh))
        case' inr.inl =>
          have hdec : decide ((32 : Int) ≤ (Maps.size E : Int)) = false := decide_eq_false (by omega)
          have HK : Hid (∀ w, ErrLaid w → Calls Tryd.prog 18 #[.nilIface] w fun e w' => e = .returned (.int .i64 0) ∧ Below w.heap.size w w') := Lib.hid (fun w _ => kind_nil w)
          have HSET : Hid (∀ w3, Grp w3 g b D → Calls Tryd.prog 9 #[.pointer (some ⟨g, 0, none⟩), .string (wd a), .string (wd t), .int .i64 p, .int .i64 o] w3 fun e w' => e = .returned .nilIface ∧ Grp w' g b (D.put (gk a t p) (.lit (.int .i64 o))) ∧ w3.grownBy w' (some b)) :=
            Lib.hid (fun w3 h3 => set_ok g b D (wd a) (wd t) p o w3 h3 (wd_ok ha6) (wd_ok ht6) (by omega) (by omega) (by omega) (by omega) (.inr hl32) (by omega))
          have HN := Lib.hid (same2_put HS.out ha6 ht6 hp4 o (.inr hl32))
          have hnl : ¬ ((32 : Int) ≤ (Maps.size E : Int)) := by omega
        case' inr.inr =>
          have HK : Hid (∀ w, ErrLaid w → Calls Tryd.prog 18 #[faultV opSet p 8] w fun e w' => e = .returned (.int .i64 8) ∧ Below w.heap.size w w') := Lib.hid (fun w h => kind_fault opSet p 8 w h)
          have hdec : decide ((32 : Int) ≤ (Maps.size E : Int)) = true := decide_eq_true (by omega)
          have HSET : Hid (∀ w3, Grp w3 g b D → Calls Tryd.prog 9 #[.pointer (some ⟨g, 0, none⟩), .string (wd a), .string (wd t), .int .i64 p, .int .i64 o] w3 fun e w' => e = .returned (faultV opSet p 8) ∧ Grp w' g b D ∧ w3.grownBy w' (some b)) :=
            Lib.hid (fun w3 h3 => (set_full g b D (wd a) (wd t) p o w3 h3 (wd_ok ha6) (wd_ok ht6) (by omega) (by omega) (by omega) hh hg32).mono fun e w' ⟨h1, h2⟩ => ⟨h1, h3.ext h2, (grown_of_below h2).but _⟩)
          have hnl : (32 : Int) ≤ (Maps.size E : Int) := by omega
        all_goals
          rw [hh] at hlk
          have HLe := Lib.hid hle
          have HSE := Lib.hid hsizeE
          clear hh hle hsizeE
          go_wp2_with (first | (go_at_call 15; (with_reducible refine (HwO.out _).mono ?_); rintro e _ ⟨rfl, rfl⟩) | fail)
          clear hlk hld c4
          go_region_held3 (fun w' => wc.grownBy w' (some b) ∧ w'.cell? ⟨kb, 0, none⟩ = some (.int .i64 a) ∧ w'.cell? ⟨kb, 1, none⟩ = some (.int .i64 t) ∧ w'.cell? ⟨kb, 2, none⟩ = some (.int .i64 p)) (first | exact FS.out _ hq5 | exact FS.out _ hq3 | exact FS.out _ hq2 | exact FS.out _ hq1 | exact FS.out _ hq0)
            (first | (go_at_call 16; (with_reducible refine (HWA.out _ (by omega) (by omega)).mono ?_); rintro e w2 ⟨rfl, hb2⟩; have hq2 : wc.grownBy w2 (some b) := hq1.trans ((grown_of_below hb2).but _); have hG2 := Lib.hid ((HGc.out.drawn 1).ext hb2); clear hb2) | (go_at_call 16; (with_reducible refine (HWT.out _ (by omega) (by omega)).mono ?_); rintro e w3 ⟨rfl, hb3⟩; have hq3 : wc.grownBy w3 (some b) := hq2.trans ((grown_of_below hb3).but _); have hG3 := Lib.hid (hG2.out.ext hb3); clear hb3) | (go_at_call 9; (with_reducible refine (HSET.out _ hG3.out).mono ?_); rintro e w5 ⟨rfl, hG5, hg5⟩; have hq5 : wc.grownBy w5 (some b) := hq3.trans hg5; clear hg5) | fail)
          have hB5 := below_grown HBC.out HBC.out.size hq5 HB.out
          have HO5 := Lib.hid (own3_keep HOc.out hq5 (fun e => HNE.out.1 (Option.some.inj e).symm))
          have HBK5 : Hid (Bk w5 kb 51 #[.int .i64 a, .int .i64 t, .int .i64 p]) := Lib.hid ((hq5.block kb HBK.out.lt (fun e => HNK.out.1 (Option.some.inj e))).trans HBK.out)
          have HG5 := Lib.hid hG5
          have hl5 := own3_len HO5.out 3
          have hE5 := HE.out.below hB5
          clear FS hq0 hq1 hq2 hq3 hq5 hG2 hG3 hG5 HSET HBK HOc HGc HBC
          go_wp2_with fail
          refine (HK.out w5 hE5).mono ?_
          rintro e w6 ⟨rfl, hb6⟩
          have hB6 := hB5.trans (below_le hB5.size hb6)
          have HO6 := Lib.hid (own3_keep HO5.out (grown_of_below hb6) (by simp))
          have HBK6 := Lib.hid (HBK5.out.ext hb6)
          have HG6 := Lib.hid (HG5.out.ext hb6)
          have hld6 := ldL_bk HBK6.out
          clear HK hl5 hb6 HO5 HBK5 HG5 hB5 hE5
        · have hl7 := own3_len HO6.out 3
          rw [HS.out.size] at hl7
          have hlr := Lib.hid (len_any g b D w6 HG6.out)
          clear hld6 HBK6
          go_wp2_with fail
          refine hlr.out.mono ?_
          rintro e _ ⟨rfl, rfl⟩
          rename_i w8
          clear hlr
          go_wp2_with fail
          go_roundw
          case rel => exact ⟨k + 1, D, E, by omega, by omega, by go_num, HG6.out, HO6.out, HS.out, hB6⟩
          case measure => simp [intOf]; omega
        · go_wp2_with (first | (at_mapUpdate; go_loud (refine wpList_mapUpdate_own _ rfl _ _ _ 50 rfl 51 3 law_l Tryd.underlying50 (plainElem Tryd.prog 3) m _ _ rfl HO6.out (by unfold maxLen; have := HSE.out; have := HLe.out; omega) _ _ _ rfl rfl (lk_is (a := a) (t := t) (p := p) (by omega) (by omega) (by omega)) _ [] (plainElem_int Tryd.underlying3 (wf_of (z := (o : Int)) (by omega) (by omega))) ?_); intro w7 hown7 hg7; have HO7 : Hid (Own3 w7 m (E.put (lk a t p) (.lit (.int .i64 o)))) := Lib.hid (own3_tight hown7); have HG7 := Lib.hid (HG6.out.keep hg7 (fun e => HNE.out.1 (Option.some.inj e)) (fun e => HNE.out.2 (Option.some.inj e))); have hB7 := below_grown hB6 hB6.size hg7 HML.out; clear hown7 hg7 hld6 HO6 HBK6 HG6 hB6) | fail)
          have hl7 := own3_len HO7.out 3
          rw [HN.out.size] at hl7
          refine (len_any g b _ w7 HG7.out).mono ?_
          rintro e _ ⟨rfl, rfl⟩
          go_wp2_with fail
          go_roundw
          case rel => exact ⟨k + 1, _, _, by omega, by omega, by go_num, HG7.out, HO7.out, HN.out, hB7⟩
          case measure => simp [intOf]; omega
        · go_wp2_with (first | (at_mapUpdate; go_loud (refine wpList_mapUpdate_own _ rfl _ _ _ 50 rfl 51 3 law_l Tryd.underlying50 (plainElem Tryd.prog 3) m _ _ rfl HO6.out (by unfold maxLen; have := HSE.out; have := HLe.out; omega) _ _ _ rfl rfl (lk_is (a := a) (t := t) (p := p) (by omega) (by omega) (by omega)) _ [] (plainElem_int Tryd.underlying3 (wf_of (z := (o : Int)) (by omega) (by omega))) ?_); intro w7 hown7 hg7; have HO7 : Hid (Own3 w7 m (E.put (lk a t p) (.lit (.int .i64 o)))) := Lib.hid (own3_tight hown7); have HG7 := Lib.hid (HG6.out.keep hg7 (fun e => HNE.out.1 (Option.some.inj e)) (fun e => HNE.out.2 (Option.some.inj e))); have hB7 := below_grown hB6 hB6.size hg7 HML.out; clear hown7 hg7 hld6 HO6 HBK6 HG6 hB6) | fail)
          have hl7 := own3_len HO7.out 3
          rw [HN.out.size] at hl7
          refine (len_any g b _ w7 HG7.out).mono ?_
          rintro e _ ⟨rfl, rfl⟩
          go_wp2_with fail
          go_roundw
          case rel => exact ⟨k + 1, _, _, by omega, by omega, by go_num, HG7.out, HO7.out, HN.out, hB7⟩
          case measure => simp [intOf]; omega
    · rw [Decidable.not_and_iff_or_not] at hin
      have hcase : ¬ ((k : Int) < n) ∨ ((k : Int) < n ∧ ¬ ((k : Int) < 80)) := by omega
      have hTw := Lib.hid (twin_any g b D wr HG.out)
      have hblt := HG.out.own.lt
      have hglt := HG.out.bk.lt
      have hmlt := World.ownsMap.lt HO.out
      have hwl := HBw.out.size
      have HN2 : Hid (b ≠ wr.heap.size ∧ g ≠ wr.heap.size ∧ m ≠ wr.heap.size ∧ w.heap.size ≤ wr.heap.size) := Lib.hid (by omega)
      clear hin hkn hk80 hblt hglt hmlt hwl
      rcases hcase with hc1 | ⟨hc1, hc2⟩
      all_goals
        go_wp2_with fail
        refine hTw.out.mono ?_
        rintro e w3 ⟨rfl, hGt, hbt⟩
        have HG3 := Lib.hid (HG.out.ext hbt)
        have HO3 := Lib.hid (own3_keep HO.out (grown_of_below hbt) (by simp))
        have hB3 := HBw.out.trans (below_le HBw.out.size hbt)
        obtain ⟨g2, hg2⟩ : ∃ g2, g2 = wr.heap.size + 1 := ⟨_, rfl⟩
        obtain ⟨b2, hb2⟩ : ∃ b2, b2 = wr.heap.size := ⟨_, rfl⟩
        rw [← hg2, ← hb2] at hGt
        rw [← hb2] at HN2
        rw [← hg2]
        have HT3 := Lib.hid hGt
        have hW := word_any z w3 hz1 hz2
        have htl := wn_lt z
        have HWZ := Lib.hid (fun w => word_any z w hz1 hz2)
        clear hTw HG HO HBw hg2 hb2 hGt hbt
        generalize wn z = T at htl hW HWZ
        have hW' := Lib.hid hW
        clear hW
        go_wp2_with fail
        refine hW'.out.mono ?_
        rintro e w4 ⟨rfl, hb4⟩
        have HG4 := Lib.hid (HG3.out.ext hb4)
        have HO4 := Lib.hid (own3_keep HO3.out (grown_of_below hb4) (by simp))
        have HT4 := Lib.hid (HT3.out.ext hb4)
        have hB4 := hB3.trans (below_le hB3.size hb4)
        have hF := Lib.hid (forget_any g2 b2 D (wd T) w4 HT4.out (wd_le T) (by have := HS.out.le; omega))
        clear hW' HG3 HO3 HT3 hB3 hb4
        go_wp2_with fail
        refine hF.out.mono ?_
        rintro e w5 ⟨rfl, hT5, hg5⟩
        have HT5 := Lib.hid hT5
        have HG5 := Lib.hid (HG4.out.keep hg5 (fun e => HN2.out.1 (Option.some.inj e)) (fun e => HN2.out.2.1 (Option.some.inj e)))
        have HO5 := Lib.hid (own3_keep HO4.out hg5 (fun e => HN2.out.2.2.1 (Option.some.inj e)))
        have hB5 := below_grown hB4 hB4.size hg5 HN2.out.2.2.2
        have HL : Hid (∀ a t p : Nat, t < 6 → p < 4 → Maps.has (lessOf (wd T) D) (gk a t p) = (Maps.has D (gk a t p) && !decide (t = T))) := Lib.hid (fun a t p h1 h2 => has_less HT4.out h1 h2 htl)
        clear hF HG4 HO4 HT4 hB4 hT5 hg5
        generalize lessOf (wd T) D = L at HT5 HL
        go_wp2_with (first | (at_range; refine wpList_range_own _ rfl _ 50 rfl 51 3 law_l Tryd.underlying50 (plainElem Tryd.prog 3) m _ _ rfl HO5.out ?_; intro w6 hrg6 hg6 hs6) | fail)
        go_frame
        have HG6 := Lib.hid (HG5.out.keep hg6 (by simp) (by simp))
        have HT6 := Lib.hid (HT5.out.keep hg6 (by simp) (by simp))
        have HB6 := Lib.hid (hB5.grown hg6 hB5.size (fun j hj => by cases hj))
        obtain ⟨r, hr⟩ : ∃ r, r = w5.heap.size := ⟨_, rfl⟩
        rw [← hr] at hrg6 ⊢
        have hrm := hrg6.ne
        have HR6 := Lib.hid hrg6
        have HRB : Hid (w.heap.size ≤ r) := Lib.hid (by have := hB5.size; omega)
        have HRN : Hid (b ≠ r ∧ g ≠ r ∧ b2 ≠ r ∧ g2 ≠ r) := Lib.hid (by have := HG5.out.own.lt; have := HG5.out.bk.lt; have := HT5.out.own.lt; have := HT5.out.bk.lt; omega)
        clear hrg6 hg6 hs6 hr HG5 HT5 HO5 hB5
        go_loopw [117] (fun _ wr => ∃ (left : Lit → Bool) (cnt : Nat), wr.ranges Tryd.prog 51 (plainElem Tryd.prog 3) m r (Maps.size E) E left cnt ∧ Grp wr g b D ∧ Grp wr g2 b2 L ∧ Below w.heap.size w wr)
          (fun _ wr => wr.rangeLeft m r)
        case atStart => exact ⟨_, _, HR6.out, HG6.out, HT6.out, HB6.out⟩
        case round =>
          obtain ⟨left, cnt, hrg, hGr, hTr, hBr⟩ := hrel
          go_wp2_with (first | (at_next; refine wpList_next_ranges _ rfl _ rfl 51 law_l (plainElem Tryd.prog 3) (fun x : Int × Int × Int => Value.agg #[.int .i64 x.1, .int .i64 x.2.1, .int .i64 x.2.2]) (Value.int .i64) mk3_inv mkV_inv m r _ _ _ _ rfl hrg ?_ ?_) | go_in)
          · intro _ hl0
            have hlE := own3_len (own3_tight hrg.owns) 3
            rw [HS.out.size] at hlE
            have hL := Lib.hid (len_any g b D wr hGr)
            have HBr := Lib.hid hBr
            clear hrg hGr hTr hBr hl0
            go_wp2_with fail
            refine hL.out.mono ?_
            rintro e _ ⟨rfl, rfl⟩
            rename_i wk
            clear hL
            go_wp2_with fail
            refine (groupRuns_any _).mono ?_
            rintro e wz ⟨rfl, hz⟩
            go_wp2_with fail
            go_ret
            exact ⟨rfl, HBr.out.trans (below_le HBr.out.size hz)⟩
          · intro xa xt xp c kl yd yp w7 cnt1 hkey hlx hv hat hrg1 hlt hg1 hs1 hen
            have hkey' : keyOf Tryd.prog 51 (.agg #[.int .i64 xa, .int .i64 xt, .int .i64 xp]) = some kl := hkey
            have hen' : (Instr.entry (.pointer (some ⟨r, 0, none⟩))).run Tryd.prog w7 = .ok (.tuple #[.agg #[.int .i64 xa, .int .i64 xt, .int .i64 xp], .int .i64 c]) w7 := hen
            obtain ⟨a, t, p, ha6, ht6, hp4, rfl, rfl, rfl, hD, hM⟩ := entry_says HS.out hkey' hv hat
            have HG7 := hGr.keep hg1 (fun e => HRN.out.1 (Option.some.inj e)) (fun e => HRN.out.2.1 (Option.some.inj e))
            have HT7 := hTr.keep hg1 (fun e => HRN.out.2.2.1 (Option.some.inj e)) (fun e => HRN.out.2.2.2 (Option.some.inj e))
            have hB7 := below_grown hBr hBr.size hg1 HRB.out
            have hb8 := below_new w7 (.cells #[.int .i64 a, .int .i64 t, .int .i64 p] 51)
            have HX : Hid (Bk (w7.alloc (.cells #[.int .i64 a, .int .i64 t, .int .i64 p] 51)) w7.heap.size 51 #[.int .i64 a, .int .i64 t, .int .i64 p] ∧ (w7.alloc (.cells #[.int .i64 a, .int .i64 t, .int .i64 p] 51)).ranges Tryd.prog 51 (plainElem Tryd.prog 3) m r (Maps.size E) E (fun z => left z && !z.sameKey kl) cnt1 ∧ Grp (w7.alloc (.cells #[.int .i64 a, .int .i64 t, .int .i64 p] 51)) g b D ∧ Grp (w7.alloc (.cells #[.int .i64 a, .int .i64 t, .int .i64 p] 51)) g2 b2 L ∧ Below w.heap.size w (w7.alloc (.cells #[.int .i64 a, .int .i64 t, .int .i64 p] 51))) :=
              Lib.hid ⟨Bk.made _ _ _, hrg1.alloc _, HG7.ext hb8, HT7.ext hb8, hB7.trans (below_le hB7.size hb8)⟩
            have hleft := hrg.left_eq
            have HLT : Hid (cnt1 < wr.rangeLeft m r) := Lib.hid (by rw [hleft]; exact hlt)
            clear hkey hen hkey' hv hat hrg1 hg1 hs1 HG7 HT7 hB7 hb8 hGr hTr hBr hleft hrg hlt hlx
            go_wp2_with fail
            obtain ⟨kb, hkb⟩ : ∃ kb, kb = w7.heap.size := ⟨_, rfl⟩
            rw [← hkb] at HX ⊢
            refine wp_cut (fun w8 => Bk w8 kb 51 #[.int .i64 a, .int .i64 t, .int .i64 p] ∧ w8.ranges Tryd.prog 51 (plainElem Tryd.prog 3) m r (Maps.size E) E (fun z => left z && !z.sameKey kl) cnt1 ∧ Grp w8 g b D ∧ Grp w8 g2 b2 L ∧ Below w.heap.size w w8) HX.out ?_
            clear HX hkb hen'
            rintro w8 ⟨hbk, hrg8, hG8, hT8, hB8⟩
            have hmk := fun w h => mark_any g b D (wd a) (wd t) p w h (wd_le a) (wd_le t) (wf_of (by omega) (by omega))
            rw [show Maps.has D (mkey (wd a) (wd t) (p : Int)) = true from hD, show markOf D (mkey (wd a) (wd t) (p : Int)) = c from hM] at hmk
            have HMG := Lib.hid hmk
            have hmt := fun w h => mark_any g2 b2 L (wd a) (wd t) p w h (wd_le a) (wd_le t) (wf_of (by omega) (by omega))
            have hll := HL.out a t p ht6 hp4
            rw [hD, Bool.true_and] at hll
            have hseq := str_eq (wd t) (wd T)
            have hdd : decide (wd t = wd T) = decide (t = T) := decide_eq_decide.2 ⟨fun e => wd_inj ht6 htl e, fun e => by rw [e]⟩
            rw [hdd] at hseq
            rw [show Maps.has L (mkey (wd a) (wd t) (p : Int)) = !decide (t = T) from hll] at hmt
            generalize markOf L (mkey (wd a) (wd t) (p : Int)) = mk at hmt
            have hwa := word_any (a : Int)
            have hwt := word_any (t : Int)
            rw [wn_of ha6] at hwa
            rw [wn_of ht6] at hwt
            have HWA := Lib.hid hwa
            have HWT := Lib.hid hwt
            have HBK := Lib.hid hbk
            have HRG := Lib.hid hrg8
            have HG8 := Lib.hid hG8
            have HT8 := Lib.hid hT8
            clear hmk hll hdd hwa hwt hbk hrg8 hG8 hT8 hD hM
            cases hdt : decide (t = T)
            all_goals
              rw [hdt] at hmt hseq
              have HMT := Lib.hid hmt
              clear hmt hdt
              have hq0 := Below.refl w8.heap.size w8
              have hq1 := below_drew1 hq0
              have FS : Hid (∀ w', Below w8.heap.size w8 w' → (Below w8.heap.size w8 w' ∧ w'.cell? ⟨kb, 0, none⟩ = some (.int .i64 a) ∧ w'.cell? ⟨kb, 1, none⟩ = some (.int .i64 t) ∧ w'.cell? ⟨kb, 2, none⟩ = some (.int .i64 p))) := Lib.hid (fun w' hb => ⟨hb, (HBK.out.ext hb).cell 0, (HBK.out.ext hb).cell 1, (HBK.out.ext hb).cell 2⟩)
              go_wp2_with fail
              go_region_held3 (fun w' => Below w8.heap.size w8 w' ∧ w'.cell? ⟨kb, 0, none⟩ = some (.int .i64 a) ∧ w'.cell? ⟨kb, 1, none⟩ = some (.int .i64 t) ∧ w'.cell? ⟨kb, 2, none⟩ = some (.int .i64 p)) (first | exact FS.out _ hq3 | exact FS.out _ hq2 | exact FS.out _ hq1 | exact FS.out _ hq0)
                (first | (go_at_call 16; (with_reducible refine (HWA.out _ (by omega) (by omega)).mono ?_); rintro e w8a ⟨rfl, hbb2⟩; have hq2 : Below w8.heap.size w8 w8a := hq1.trans (below_le hq1.size hbb2); clear hbb2) | (go_at_call 16; (with_reducible refine (HWT.out _ (by omega) (by omega)).mono ?_); rintro e w8b ⟨rfl, hbb3⟩; have hq3 : Below w8.heap.size w8 w8b := hq2.trans (below_le hq2.size hbb3); clear hbb3) | (go_at_call 10; (with_reducible refine (HMG.out _ (HG8.out.ext hq3)).mono ?_); rintro e _ ⟨rfl, rfl⟩) | fail)
              rename_i w10 hheld10
              have HBKn := Lib.hid (HBK.out.ext hq3)
              have HRGn := Lib.hid (HRG.out.kept (grown_of_below hq3) (by simp) (by simp))
              have HG8n := Lib.hid (HG8.out.ext hq3)
              have HT8n := Lib.hid (HT8.out.ext hq3)
              have hB8n := hB8.trans (below_le hB8.size hq3)
              clear FS hq0 hq1 hq2 hq3 HBK HRG HG8 HT8 hB8
              have HBK := HBKn
              have HRG := HRGn
              have HG8 := HG8n
              have HT8 := HT8n
              have hB8 := hB8n
              clear HBKn HRGn HG8n HT8n hB8n
              have hq0 := Below.refl w10.heap.size w10
              have hq1 := below_drew1 hq0
              have FS : Hid (∀ w', Below w10.heap.size w10 w' → (Below w10.heap.size w10 w' ∧ w'.cell? ⟨kb, 0, none⟩ = some (.int .i64 a) ∧ w'.cell? ⟨kb, 1, none⟩ = some (.int .i64 t) ∧ w'.cell? ⟨kb, 2, none⟩ = some (.int .i64 p))) := Lib.hid (fun w' hb => ⟨hb, (HBK.out.ext hb).cell 0, (HBK.out.ext hb).cell 1, (HBK.out.ext hb).cell 2⟩)
              go_wp2_with fail
              go_region_held3 (fun w' => Below w10.heap.size w10 w' ∧ w'.cell? ⟨kb, 0, none⟩ = some (.int .i64 a) ∧ w'.cell? ⟨kb, 1, none⟩ = some (.int .i64 t) ∧ w'.cell? ⟨kb, 2, none⟩ = some (.int .i64 p)) (first | exact FS.out _ hq3 | exact FS.out _ hq2 | exact FS.out _ hq1 | exact FS.out _ hq0)
                (first | (go_at_call 16; (with_reducible refine (HWA.out _ (by omega) (by omega)).mono ?_); rintro e w10a ⟨rfl, hbb2⟩; have hq2 : Below w10.heap.size w10 w10a := hq1.trans (below_le hq1.size hbb2); clear hbb2) | (go_at_call 16; (with_reducible refine (HWT.out _ (by omega) (by omega)).mono ?_); rintro e w10b ⟨rfl, hbb3⟩; have hq3 : Below w10.heap.size w10 w10b := hq2.trans (below_le hq2.size hbb3); clear hbb3) | (go_at_call 10; (with_reducible refine (HMT.out _ (HT8.out.ext hq3)).mono ?_); rintro e _ ⟨rfl, rfl⟩) | fail)
              rename_i w12 hheld12
              have HBKn := Lib.hid (HBK.out.ext hq3)
              have HRGn := Lib.hid (HRG.out.kept (grown_of_below hq3) (by simp) (by simp))
              have HG8n := Lib.hid (HG8.out.ext hq3)
              have HT8n := Lib.hid (HT8.out.ext hq3)
              have hB8n := hB8.trans (below_le hB8.size hq3)
              clear FS hq0 hq1 hq2 hq3 HBK HRG HG8 HT8 hB8
              have HBK := HBKn
              have HRG := HRGn
              have HG8 := HG8n
              have HT8 := HT8n
              have hB8 := hB8n
              clear HBKn HRGn HG8n HT8n hB8n
              have hcell1 := HBK.out.cell 1
              have hcell : w12.cell? ⟨kb, 1, none⟩ = some (.int .i64 t) := hcell1
              clear hcell1
              go_wp2_with (first | (go_at_call 16; (with_reducible refine (HWT.out _ (by omega) (by omega)).mono ?_); rintro e w13 ⟨rfl, hb13⟩) | (go_at_call 16; (with_reducible refine (HWZ.out _).mono ?_); rintro e w14 ⟨rfl, hb14⟩) | fail)
              have hbz := hb13.trans (below_le hb13.size hb14)
              have hRz := HRG.out.kept (grown_of_below hbz) (by simp) (by simp)
              exact ⟨⟨_, cnt1, hRz, HG8.out.ext hbz, HT8.out.ext hbz, hB8.trans (below_le hB8.size hbz)⟩, by rw [hRz.left_eq]; exact HLT.out⟩
end Go.Proofs.YtgigibkadbnplaaDoor
