/-
  The walk of the law GroupForgets.
-/
import Derived.Test.YtgigibkadbnplaaDoorForgMath
import Derived.Test.YtgigibkadbnplaaDoorGrpAsk
import Derived.Deep.RegionHeld3
namespace Go.Proofs.YtgigibkadbnplaaDoor
open Go.RowKit Go.Maps

set_option maxRecDepth 100000 in
set_option maxHeartbeats 4000000 in
theorem groupForgets_any {H : Type} {enc : TypeId × Value → H} {base : Nat} {v0 v1 v2 : Value} {d0 d1 d2 : DataW H} {p0 p1 p2 : List MemPlace} (w : World) (hE : ErrLaid w) (h0 : Came enc w base 37 v0 d0 p0) (h1 : Came enc w base 3 v1 d1 p1) (h2 : Came enc w base 3 v2 d2 p2) :
    Calls Tryd.prog 6 #[v0, v1, v2] w fun e w' => e = .returned (.bool true) ∧ Below w.heap.size w w' := by
  obtain ⟨A, n, c, l, rfl, hrd⟩ := h0.asks
  obtain ⟨z, rfl, hz1, hz2⟩ := h1.int
  obtain ⟨x, rfl, hx1, hx2⟩ := h2.int
  clear h0 h1 h2
  have hcap := hrd.cap
  have hbig := hrd.big
  have HRD := Lib.hid hrd
  have HE := Lib.hid hE
  have hN := Lib.hid (new_any w)
  clear hrd hE
  go_enter Tryd.func6, Tryd.ntmps6
  go_wp2_with fail
  refine hN.out.mono ?_
  rintro e w1 ⟨rfl, hG, hb1⟩
  clear hN
  obtain ⟨g, hg⟩ : ∃ g, g = w.heap.size + 1 := ⟨_, rfl⟩
  obtain ⟨b, hbw⟩ : ∃ b, b = w.heap.size := ⟨_, rfl⟩
  rw [← hg, ← hbw] at hG
  rw [← hg]
  have HB : Hid (w.heap.size ≤ b) := Lib.hid (by omega)
  have HG := Lib.hid hG
  have HB1 := Lib.hid hb1
  clear hg hbw hG hb1
  go_wp2_with fail
  go_loopw [8] (fun i wr => ∃ (k : Nat) (D : DataW Unit), k ≤ n ∧ k ≤ 40 ∧ i = .int .i64 k ∧ Grp wr g b D ∧ Grid D ∧ Maps.size D ≤ 32 ∧ Below w.heap.size w wr) (fun i _ => n - (intOf i).toNat)
  case atStart => exact ⟨0, _, by omega, by omega, rfl, HG.out, grid_nil, by decide, HB1.out⟩
  case round =>
    obtain ⟨k, D, hkn, hk40, rfl, hG, hGr, hS, hBw⟩ := hrel
    clear HG HB1
    have HG := Lib.hid hG
    have HGr := Lib.hid hGr
    have HS := Lib.hid hS
    have HBw := Lib.hid hBw
    clear hG hGr hS hBw
    by_cases hin : k < n ∧ k < 40
    · obtain ⟨hlt, hlt4⟩ := hin
      · have hi : (k : Int) < n := by omega
        have hi4 : (k : Int) < 40 := by omega
        obtain ⟨ad, rfl, hadl, hce⟩ := HRD.out.cell k hlt
        obtain ⟨_, ⟨hg1, hg2⟩, ⟨ht1, ht2⟩, ⟨hp1, hp2⟩, _, _⟩ := HRD.out.ok k hlt
        have cat : ∀ j u, 0 < j → (l k).cells[j]? = some u → w.cell? ⟨(ad.add (k * 6)).block, (ad.add (k * 6)).off + j, none⟩ = some u := fun j u hj hu => by rw [← add_pos' _ _ hj, add_add']; exact hce j u hu
        have c1 := cat 1 _ (by omega) rfl
        have c2 := cat 2 _ (by omega) rfl
        have c3 := cat 3 _ (by omega) rfl
        have hadl' : (ad.add (k * 6)).block < w.heap.size := by rw [add_block]; exact hadl
        have FS : Hid (∀ w', Below w.heap.size w w' → (Below w.heap.size w w' ∧ w'.cell? ⟨(ad.add (k * 6)).block, (ad.add (k * 6)).off + 1, none⟩ = some (.int .i64 (l k).g) ∧ w'.cell? ⟨(ad.add (k * 6)).block, (ad.add (k * 6)).off + 2, none⟩ = some (.int .i64 (l k).t) ∧ w'.cell? ⟨(ad.add (k * 6)).block, (ad.add (k * 6)).off + 3, none⟩ = some (.int .i64 (l k).p))) :=
          fun w' hb => ⟨hb, (hb.cell (p := ⟨(ad.add (k * 6)).block, (ad.add (k * 6)).off + 1, none⟩) hadl').trans c1, (hb.cell (p := ⟨(ad.add (k * 6)).block, (ad.add (k * 6)).off + 2, none⟩) hadl').trans c2, (hb.cell (p := ⟨(ad.add (k * 6)).block, (ad.add (k * 6)).off + 3, none⟩) hadl').trans c3⟩
        have Hce := Lib.hid hce
        clear c1 c2 c3 hce cat
        generalize (l k).g = G at hg1 hg2 FS
        generalize (l k).t = T at ht1 ht2 FS
        generalize (l k).p = P at hp1 hp2 FS
        have hB0 := HBw.out
        have hwi := within_in P 0 3 (by omega)
        obtain ⟨pn, hpn, hpn4⟩ : ∃ pn : Nat, within P 0 3 = (pn : Int) ∧ pn < 4 := ⟨(within P 0 3).toNat, by omega, by omega⟩
        go_wp2_with fail
        go_region_held3 (fun w' => Below w.heap.size w w' ∧ w'.cell? ⟨(ad.add (k * 6)).block, (ad.add (k * 6)).off + 1, none⟩ = some (.int .i64 G) ∧ w'.cell? ⟨(ad.add (k * 6)).block, (ad.add (k * 6)).off + 2, none⟩ = some (.int .i64 T) ∧ w'.cell? ⟨(ad.add (k * 6)).block, (ad.add (k * 6)).off + 3, none⟩ = some (.int .i64 P)) (first | exact FS.out _ hB5 | exact FS.out _ hB3 | exact FS.out _ hB2 | exact FS.out _ (below_drew1 hB0) | exact FS.out _ hB0)
          (first | (go_at_call 16; (with_reducible refine (word_any G _ hg1 hg2).mono ?_); rintro e w2 ⟨rfl, hb2⟩; have hB2 : Below w.heap.size w w2 := (below_drew1 hB0).trans (below_le (below_drew1 hB0).size hb2); have hG2 := Lib.hid ((HG.out.drawn 1).ext hb2); clear hb2) | (go_at_call 16; (with_reducible refine (word_any T _ ht1 ht2).mono ?_); rintro e w3 ⟨rfl, hb3⟩; have hB3 : Below w.heap.size w w3 := hB2.trans (below_le hB2.size hb3); have hG3 := Lib.hid (hG2.out.ext hb3); clear hb3) | (go_at_call 15; (with_reducible refine (within_any P 0 3 _ (by omega) (by omega) (by omega) hp1 hp2).mono ?_); rintro e w4 ⟨rfl, rfl⟩) | (go_at_call 9; (with_reducible refine (set_good g b D (wd (wn G)) (wd (wn T)) (pn : Int) k _ hG3.out (wd_ok (wn_lt G)) (wd_ok (wn_lt T)) (by omega) (by omega) (by omega) (by omega) (by have := HS.out; omega)).mono ?_); rintro e w5 ⟨rfl, hG5, hg5⟩; have hB5 : Below w.heap.size w w5 := below_grown hB3 hB3.size hg5 HB.out; clear hg5) | fail)
        have HG5 : Hid (Grp w5 g b (setD D (gk (wn G) (wn T) pn) k)) := Lib.hid hG5
        clear hG5 hG3 hG2
        go_wp2_with fail
        go_roundw
        case rel => exact ⟨k + 1, _, by omega, by omega, by go_num, HG5.out, grid_set HGr.out (wn_lt G) (wn_lt T) hpn4 _, size_set HG.out.tidy HS.out _ _, hB5⟩
        case measure => simp [intOf]; omega
    · rw [Decidable.not_and_iff_or_not] at hin
      have hcase : ¬ ((k : Int) < n) ∨ ((k : Int) < n ∧ ¬ ((k : Int) < 40)) := by omega
      have HSm : Hid (Maps.size D ≤ 1000) := Lib.hid (by have := HS.out; omega)
      clear hin hkn hk40
      rcases hcase with hc1 | ⟨hc1, hc2⟩
      all_goals
        go_wp2_with fail
        refine (len_any g b D wr HG.out).mono ?_
        rintro e _ ⟨rfl, rfl⟩
        rename_i wl
        obtain ⟨y, hy, hy0, hy9⟩ : ∃ y : Int, within x 0 9 = y ∧ 0 ≤ y ∧ y ≤ 9 := ⟨_, rfl, (within_in x 0 9 (by omega)).1, (within_in x 0 9 (by omega)).2⟩
        have hB0 := HBw.out
        have hS := Lib.hid (set_bad (.pointer (some ⟨g, 0, none⟩)) ⟨#[]⟩ ⟨#[116]⟩ 0 1 wl (by decide) (by decide) (.inl (by decide)))
        go_wp2_with fail
        refine hS.out.mono ?_
        rintro e ws1 ⟨rfl, hs1⟩
        have hB1 := hB0.trans (below_le hB0.size hs1)
        have HG1 := Lib.hid (HG.out.ext hs1)
        clear hS hs1 
        have hK := Lib.hid (kind_fault opSet 0 1 ws1 (HE.out.below hB1))
        go_wp2_with fail
        refine hK.out.mono ?_
        rintro e ws2 ⟨rfl, hs2⟩
        have hB2 := hB1.trans (below_le hB1.size hs2)
        have HG2 := Lib.hid (HG1.out.ext hs2)
        clear hK hs2 HG1 hB1
        have hS := Lib.hid (set_bad (.pointer (some ⟨g, 0, none⟩)) ⟨#[97]⟩ ⟨#[84]⟩ 0 1 ws2 (by decide) (by decide) (.inr (.inl ⟨by decide, by decide⟩)))
        go_wp2_with fail
        refine hS.out.mono ?_
        rintro e ws3 ⟨rfl, hs3⟩
        have hB3 := hB2.trans (below_le hB2.size hs3)
        have HG3 := Lib.hid (HG2.out.ext hs3)
        clear hS hs3 HG2 hB2
        have hK := Lib.hid (kind_fault opSet 0 1 ws3 (HE.out.below hB3))
        go_wp2_with fail
        refine hK.out.mono ?_
        rintro e ws4 ⟨rfl, hs4⟩
        have hB4 := hB3.trans (below_le hB3.size hs4)
        have HG4 := Lib.hid (HG3.out.ext hs4)
        clear hK hs4 HG3 hB3
        have hW := Lib.hid (within_any x 0 9 ws4 (by omega) (by omega) (by omega) hx1 hx2)
        rw [hy] at hW
        go_wp2_with fail
        refine hW.out.mono ?_
        rintro e _ ⟨rfl, rfl⟩
        clear hW
        have hS := Lib.hid (set_bad (.pointer (some ⟨g, 0, none⟩)) ⟨#[97]⟩ ⟨#[116]⟩ (4 + y) 1 ws4 (by decide) (by decide) (.inr (.inr (.inr (.inl ⟨by decide, by decide, by omega, by omega⟩)))))
        go_wp2_with fail
        refine hS.out.mono ?_
        rintro e ws5 ⟨rfl, hs5⟩
        have hB5 := hB4.trans (below_le hB4.size hs5)
        have HG5 := Lib.hid (HG4.out.ext hs5)
        clear hS hs5 HG4 hB4
        have hK := Lib.hid (kind_fault opSet (4 + y) 1 ws5 (HE.out.below hB5))
        go_wp2_with fail
        refine hK.out.mono ?_
        rintro e ws6 ⟨rfl, hs6⟩
        have hB6 := hB5.trans (below_le hB5.size hs6)
        have HG6 := Lib.hid (HG5.out.ext hs6)
        clear hK hs6 HG5 hB5
        have hW := Lib.hid (within_any x 0 9 ws6 (by omega) (by omega) (by omega) hx1 hx2)
        rw [hy] at hW
        go_wp2_with fail
        refine hW.out.mono ?_
        rintro e _ ⟨rfl, rfl⟩
        clear hW
        have hS := Lib.hid (set_bad (.pointer (some ⟨g, 0, none⟩)) ⟨#[97]⟩ ⟨#[116]⟩ 0 (-1 - y) ws6 (by decide) (by decide) (.inr (.inr (.inr (.inr ⟨by decide, by decide, by omega, by omega, by omega⟩)))))
        go_wp2_with fail
        refine hS.out.mono ?_
        rintro e ws7 ⟨rfl, hs7⟩
        have hB7 := hB6.trans (below_le hB6.size hs7)
        have HG7 := Lib.hid (HG6.out.ext hs7)
        clear hS hs7 HG6 hB6
        have hK := Lib.hid (kind_fault opSet 0 1 ws7 (HE.out.below hB7))
        go_wp2_with fail
        refine hK.out.mono ?_
        rintro e ws8 ⟨rfl, hs8⟩
        have hB8 := hB7.trans (below_le hB7.size hs8)
        have HG8 := Lib.hid (HG7.out.ext hs8)
        clear hK hs8 HG7 hB7
        have hL := Lib.hid (len_any g b D ws8 HG8.out)
        go_wp2_with fail
        refine hL.out.mono ?_
        rintro e _ ⟨rfl, rfl⟩
        rename_i wk
        clear hL hy hy0 hy9 HG
        have hT := Lib.hid (word_any z wk hz1 hz2)
        go_wp2_with fail
        refine hT.out.mono ?_
        rintro e wt ⟨rfl, ht9⟩
        have hBt := hB8.trans (below_le hB8.size ht9)
        have HGt := Lib.hid (HG8.out.ext ht9)
        have htl := wn_lt z
        clear hT ht9 HG8 hB8
        generalize wn z = T at htl
        go_wp2_with fail

        go_loopw [11, 12] (fun kc ac wr => ∃ a : Nat, a ≤ 6 ∧ ac = .int .i64 a ∧ kc = .int .i64 (cnt D T (4 * a)) ∧ Grp wr g b D ∧ Below w.heap.size w wr) (fun _ ac _ => 6 - (intOf ac).toNat)
        case atStart => exact ⟨0, by omega, rfl, rfl, HGt.out, hBt⟩
        case round =>
          obtain ⟨a, ha6, rfl, rfl, hGa, hBa⟩ := hrel
          have HGa := Lib.hid hGa
          have HBa := Lib.hid hBa
          clear hGa hBa
          by_cases ha : a < 6
          · have hai : (a : Int) < 6 := by omega
            go_wp2_with fail
            go_loopw [11, 13] (fun kc ic wr => ∃ i : Nat, i ≤ 4 ∧ ic = .int .i64 i ∧ kc = .int .i64 (cnt D T (4 * a + i)) ∧ Grp wr g b D ∧ Below w.heap.size w wr) (fun _ ic _ => 4 - (intOf ic).toNat)
            case atStart => exact ⟨0, by omega, rfl, rfl, HGa.out, HBa.out⟩
            case round =>
              obtain ⟨i, hi4, rfl, rfl, hGi, hBi⟩ := hrel
              have HGi := Lib.hid hGi
              have HBi := Lib.hid hBi
              clear hGi hBi
              by_cases hil : i < 4
              · have hii : (i : Int) < 4 := by omega
                have hcl : (cnt D T (4 * a + i) : Int) ≤ 24 := by have := cnt_le D T (4 * a + i); omega
                have hnx := Lib.hid (cnt_next D T a i ha hil)
                have hW := word_any (a : Int) wr (by omega) (by omega)
                rw [wn_of ha] at hW
                have HW := Lib.hid hW
                clear hW
                go_wp2_with fail
                refine HW.out.mono ?_
                rintro e wq ⟨rfl, hq⟩
                have hBq := HBi.out.trans (below_le HBi.out.size hq)
                have HGq := Lib.hid (HGi.out.ext hq)
                clear HW hq HGi
                have hM := mark_any g b D (wd a) (wd T) i wq HGq.out (wd_le a) (wd_le T) (wf_of (by omega) (by omega))
                cases hh : Maps.has D (gk a T i)
                · have hh' : Maps.has D (mkey (wd a) (wd T) (i : Int)) = false := hh
                  rw [hh'] at hM
                  have HM := Lib.hid hM
                  have Hh := Lib.hid hh
                  clear hM hh hh'
                  go_wp2_with fail
                  refine HM.out.mono ?_
                  rintro e _ ⟨rfl, rfl⟩
                  clear HM
                  go_wp2_with fail
                  go_roundw
                  case rel => exact ⟨i + 1, by omega, by go_num, by rw [show 4 * a + (i + 1) = 4 * a + i + 1 from rfl, hnx.out, Hh.out]; simp, HGq.out, hBq⟩
                  case measure => simp [intOf]; omega
                · have hh' : Maps.has D (mkey (wd a) (wd T) (i : Int)) = true := hh
                  rw [hh'] at hM
                  have HM := Lib.hid hM
                  have Hh := Lib.hid hh
                  clear hM hh hh'
                  go_wp2_with fail
                  refine HM.out.mono ?_
                  rintro e _ ⟨rfl, rfl⟩
                  clear HM
                  go_wp2_with fail
                  go_roundw
                  case rel => exact ⟨i + 1, by omega, by go_num, by rw [show 4 * a + (i + 1) = 4 * a + i + 1 from rfl, hnx.out, Hh.out]; simp, HGq.out, hBq⟩
                  case measure => simp [intOf]; omega
              · obtain rfl : i = 4 := by omega
                go_wp2_with fail
                go_roundw
                case rel => exact ⟨a + 1, by omega, by go_num, by rw [show 4 * (a + 1) = 4 * a + 4 from rfl], HGi.out, HBi.out⟩
                case measure => simp [intOf]; omega
          · obtain rfl : a = 6 := by omega
            have hcount := count_topic HGa.out HGr.out htl
            rw [show 4 * 6 = 24 from rfl]
            have hK24 := cnt_le D T 24
            generalize cnt D T 24 = K at hcount hK24
            have hF := forget_any g b D (wd T) wr HGa.out (wd_le T) HSm.out
            rw [show ((Maps.size D : Int) - (Maps.size (lessOf (wd T) D) : Int)) = (K : Int) from by omega] at hF
            have HF := Lib.hid hF
            have HS2 := Lib.hid HS.out
            clear hF HGa
            go_wp2_with fail
            refine HF.out.mono ?_
            rintro e wf ⟨rfl, hGf, hgf⟩
            have hBf := below_grown HBa.out HBa.out.size hgf HB.out
            have hLf := Lib.hid (len_any g b _ wf hGf)
            have hFf := forget_any g b _ (wd T) wf hGf (wd_le T) (by have := HSm.out; omega)
            rw [less_twice, Int.sub_self] at hFf
            have HFf := Lib.hid hFf
            have hsl : (Maps.size D : Int) ≤ 32 := by have := HS2.out; omega
            have hK0 : (K : Int) ≤ 24 := by omega
            have hsub : (Maps.size D : Int) - (K : Int) = (Maps.size (lessOf (wd T) D) : Int) := by omega
            have HC := Lib.hid hcount
            clear hcount hFf HF hGf hgf
            go_wp2_with fail
            refine hLf.out.mono ?_
            rintro e _ ⟨rfl, rfl⟩
            rename_i wf'
            go_wp2_with fail
            refine HFf.out.mono ?_
            rintro e wg ⟨rfl, hGg, hgg⟩
            have hBg := below_grown hBf hBf.size hgg HB.out
            have HGg := Lib.hid hGg
            clear hGg hgg hLf HFf hsub hsl
            go_wp2_with fail
            go_loopw [16] (fun ic wr => ∃ (i : Nat) (D' : DataW Unit), i ≤ K ∧ ic = .int .i64 i ∧ Grp wr g b D' ∧ Maps.size D' ≤ Maps.size (lessOf (wd T) D) + i ∧ Below w.heap.size w wr) (fun ic _ => K - (intOf ic).toNat)
            case atStart => exact ⟨0, _, Nat.zero_le _, rfl, HGg.out, by rw [less_twice]; omega, hBg⟩
            case round =>
              obtain ⟨i, D', hiK, rfl, hGi, hSi, hBi⟩ := hrel
              have HBi := Lib.hid hBi
              clear hBi HGg hBg
              by_cases hil : i < K
              · have hii : (i : Int) < K := by omega
                have hroom : Maps.size D' < 32 := by have h1 := HC.out; have h2 := HS2.out; omega
                have hS := Lib.hid (set_ok g b D' ⟨#[110, 101, 119]⟩ (wd T) ((i : Int) % 4) i wr hGi (by decide) (wd_ok htl) (by omega) (by omega) (by omega) (by omega) (.inr hroom) (by omega))
                have hnext : ∀ kk, Maps.size (D'.put kk (.lit (.int .i64 i))) ≤ Maps.size (lessOf (wd T) D) + (i + 1) := fun kk => by
                  rw [size_put hGi.tidy]; split <;> omega
                have HX := Lib.hid hnext
                clear hnext hGi hSi
                go_wp2_with fail
                refine hS.out.mono ?_
                rintro e wh ⟨rfl, hGh, hgh⟩
                have hBh := below_grown HBi.out HBi.out.size hgh HB.out
                have HGh := Lib.hid hGh
                clear hGh hgh hS
                go_wp2_with fail
                go_roundw
                case rel => exact ⟨i + 1, _, by omega, by go_num, HGh.out, HX.out _, hBh⟩
                case measure => simp [intOf]; omega
              · obtain rfl : i = K := by omega
                clear hGi hSi
                go_wp2_with fail
                refine (groupRuns_any _).mono ?_
                rintro e wz ⟨rfl, hz⟩
                go_wp2_with fail
                go_ret
                exact ⟨rfl, HBi.out.trans (below_le HBi.out.size hz)⟩

end Go.Proofs.YtgigibkadbnplaaDoor
