/-
  few: an ask cut down.
-/
import Derived.Test.YtpfdbbcfcimmfaaGreatDoorEFew
import Derived.Test.YtpfdbbcfcimmfaaGreatDoorAsk
namespace Go.Proofs.YtpfdbbcfcimmfaaGreatDoor
open Go.RowKit
attribute [local go_sem ↓] ldA_eq stA_eq

theorem two_ask2 (w : World) (e : Ask) (A : Option Addr) (n c : Nat) :
    Bk ((w.alloc (.cells #[.int .i64 e.corr, .int .i64 e.kind, .string e.topic, .string e.group, .int .i64 e.part, .int .i64 e.parts, .int .i64 e.first, .int .i64 e.off, .int .i64 e.most, .int .i64 e.time, .int .i64 e.bat.time, .int .i64 e.bat.prod, .int .i64 e.bat.seq, .slice A n c] 47)).alloc (.cells #[.int .i64 0, .int .i64 0, .string ⟨#[]⟩, .string ⟨#[]⟩, .int .i64 0, .int .i64 0, .int .i64 0, .int .i64 0, .int .i64 0, .int .i64 0, .int .i64 0, .int .i64 0, .int .i64 0, .slice none 0 0] 47)) w.heap.size 47 #[.int .i64 e.corr, .int .i64 e.kind, .string e.topic, .string e.group, .int .i64 e.part, .int .i64 e.parts, .int .i64 e.first, .int .i64 e.off, .int .i64 e.most, .int .i64 e.time, .int .i64 e.bat.time, .int .i64 e.bat.prod, .int .i64 e.bat.seq, .slice A n c] ∧
    Bk ((w.alloc (.cells #[.int .i64 e.corr, .int .i64 e.kind, .string e.topic, .string e.group, .int .i64 e.part, .int .i64 e.parts, .int .i64 e.first, .int .i64 e.off, .int .i64 e.most, .int .i64 e.time, .int .i64 e.bat.time, .int .i64 e.bat.prod, .int .i64 e.bat.seq, .slice A n c] 47)).alloc (.cells #[.int .i64 0, .int .i64 0, .string ⟨#[]⟩, .string ⟨#[]⟩, .int .i64 0, .int .i64 0, .int .i64 0, .int .i64 0, .int .i64 0, .int .i64 0, .int .i64 0, .int .i64 0, .int .i64 0, .slice none 0 0] 47)) (w.heap.size + 1) 47 #[.int .i64 0, .int .i64 0, .string ⟨#[]⟩, .string ⟨#[]⟩, .int .i64 0, .int .i64 0, .int .i64 0, .int .i64 0, .int .i64 0, .int .i64 0, .int .i64 0, .int .i64 0, .int .i64 0, .slice none 0 0] :=
  ⟨(Bk.made w _ _).alloc _, Bk.made_at _ _ _ _ (by simp)⟩
set_option maxRecDepth 100000 in
set_option maxHeartbeats 4000000 in
theorem afew_prov (e : Ask) (A : Option Addr) (n c : Nat) (w : World) (hr : RdT w A n c e.bat.vals) :
    Calls Tryz.prog 25 #[.agg #[.int .i64 e.corr, .int .i64 e.kind, .string e.topic, .string e.group, .int .i64 e.part, .int .i64 e.parts, .int .i64 e.first, .int .i64 e.off, .int .i64 e.most, .int .i64 e.time, .int .i64 e.bat.time, .int .i64 e.bat.prod, .int .i64 e.bat.seq, .slice A n c]] w fun er w' => ∃ (x : Ask) (A' : Option Addr) (n' c' : Nat), er = .returned (.agg #[.int .i64 x.corr, .int .i64 x.kind, .string x.topic, .string x.group, .int .i64 x.part, .int .i64 x.parts, .int .i64 x.first, .int .i64 x.off, .int .i64 x.most, .int .i64 x.time, .int .i64 x.bat.time, .int .i64 x.bat.prod, .int .i64 x.bat.seq, .slice A' n' c']) ∧ RdT w' A' n' c' x.bat.vals ∧ Below w.heap.size w w' ∧ (∀ ad, A' = some ad → w.heap.size ≤ ad.block ∧ ad.block < w'.heap.size) := by
  obtain ⟨ii, hi0, hz0, hs0, hy0⟩ := info_parts info_s
  have HI := Lib.hid hi0
  have HZ := Lib.hid hz0
  have HS := Lib.hid hs0
  have HY := Lib.hid hy0
  have hk := two_ask2 w e A n c
  have hbl := below_two w (.cells #[.int .i64 e.corr, .int .i64 e.kind, .string e.topic, .string e.group, .int .i64 e.part, .int .i64 e.parts, .int .i64 e.first, .int .i64 e.off, .int .i64 e.most, .int .i64 e.time, .int .i64 e.bat.time, .int .i64 e.bat.prod, .int .i64 e.bat.seq, .slice A n c] 47) (.cells #[.int .i64 0, .int .i64 0, .string ⟨#[]⟩, .string ⟨#[]⟩, .int .i64 0, .int .i64 0, .int .i64 0, .int .i64 0, .int .i64 0, .int .i64 0, .int .i64 0, .int .i64 0, .int .i64 0, .slice none 0 0] 47)
  have HK := Lib.hid hk
  have HBl := Lib.hid hbl
  have HR := Lib.hid hr
  have HL := Lib.hid hr.len
  have hcap := Rd.cap hr
  have hbig := Rd.big hr
  clear hi0 hz0 hs0 hy0 hk hbl hr
  go_enter Tryz.func25, Tryz.ntmps25
  go_wp2_with fail
  refine wp_cut (fun w' => Bk w' w.heap.size 47 #[.int .i64 e.corr, .int .i64 e.kind, .string e.topic, .string e.group, .int .i64 e.part, .int .i64 e.parts, .int .i64 e.first, .int .i64 e.off, .int .i64 e.most, .int .i64 e.time, .int .i64 e.bat.time, .int .i64 e.bat.prod, .int .i64 e.bat.seq, .slice A n c] ∧ Bk w' (w.heap.size + 1) 47 #[.int .i64 0, .int .i64 0, .string ⟨#[]⟩, .string ⟨#[]⟩, .int .i64 0, .int .i64 0, .int .i64 0, .int .i64 0, .int .i64 0, .int .i64 0, .int .i64 0, .int .i64 0, .int .i64 0, .slice none 0 0] ∧ Below w.heap.size w w') ⟨HK.out.1, HK.out.2, HBl.out⟩ ?_
  rintro w1 ⟨hk1, hk2, hb1⟩
  have HK1 := Lib.hid hk1
  have HK2 := Lib.hid hk2
  have HB1 := Lib.hid hb1
  clear hk1 hk2 hb1 HK HBl
  go_loopw [3, 4] (fun v i wr => ∃ (k : Nat) (L : List ByteArray) (A3 : Option Addr) (c3 : Nat), k ≤ n ∧ k ≤ 10 ∧ i = .int .i64 k ∧ v = .slice A3 k c3 ∧ Hid (OwnT wr w1.heap.size A3 k c3 L) ∧ Hid (Below w1.heap.size w1 wr)) (fun _ i _ => n - (intOf i).toNat)
  case atStart => exact ⟨0, [], none, 0, Nat.zero_le _, by omega, rfl, rfl, World.ownsRow_nil _ _ _ _, Below.refl _ _⟩
  case round =>
    obtain ⟨k, L, A3, c3, hk, hk10, rfl, rfl, hOwn, hBl⟩ := hrel
    have hkk := HK1.out.ext hBl.out
    have d10 : wr.cell? ⟨w.heap.size, 13, none⟩ = some (.slice A n c) := hkk.cell 13
    by_cases hlt : k < n
    · have hi : (k : Int) < n := by omega
      by_cases h10 : k < 10
      · have hi10 : (k : Int) < 10 := by omega
        obtain ⟨s, hs⟩ : ∃ s, e.bat.vals[k]? = some s := ⟨e.bat.vals[k]'(by have := HL.out; omega), List.getElem?_eq_getElem _⟩
        obtain ⟨ad, hA, hadw, hcw⟩ := Rd.cell HR.out k (.string s) (by rw [List.getElem?_map, hs]; rfl)
        subst hA
        have hads : ad.block < w1.heap.size := Nat.lt_of_lt_of_le hadw HB1.out.size
        have hc1 : w1.cell? (ad.add k) = some (.string s) := (HB1.out.cell (by rw [add_block]; exact hadw)).trans hcw
        have hce : wr.cell? (ad.add k) = some (.string s) := (hBl.out.cell (by rw [add_block]; exact hads)).trans hc1
        have hk10' : w1.cell? ⟨w.heap.size, 13, none⟩ = some (.slice (some ad) n c) := HK1.out.cell 13
        obtain ⟨m, hm1, hm2, hm3⟩ := int_min s.size 70 (by omega)
        have hm4 : (m : Int) ≤ (s.size : Int) := by omega
        have hm5 : (0 : Int) ≤ (m : Int) := by omega
        have FS : Hid (∀ w', Below w1.heap.size w1 w' → (Below w1.heap.size w1 w' ∧ w'.cell? ⟨w.heap.size, 13, none⟩ = some (.slice (some ad) n c) ∧ w'.cell? (ad.add k) = some (.string s))) := fun w' hb => ⟨hb, (hb.cell (p := ⟨w.heap.size, 13, none⟩) HK1.out.lt).trans hk10', (hb.cell (by rw [add_block]; exact hads)).trans hc1⟩
        have q0 := below_drew1 hBl.out
        clear hcw hc1 hk10'
        clear hkk hs
        go_wp2_with fail
        go_region_held3 (fun w' => Below w1.heap.size w1 w' ∧ w'.cell? ⟨w.heap.size, 13, none⟩ = some (.slice (some ad) n c) ∧ w'.cell? (ad.add k) = some (.string s)) (first | exact FS.out _ q0 | exact FS.out _ hb6 | exact FS.out _ (below_drew1 (hBl.out.alloc hBl.out.size _))) (first | ((refine step_append_gen (by rfl) (.tmp 17) (.tmp 33) 22 (by rfl) 9 ii _ 1 16 Tryz.underlying22 HI.out HZ.out HS.out HY.out (by rfl) (by omega) w1.heap.size w1 _ k (L.map Value.string) (by rfl) (World.ownsRow.alloc hOwn.out _) ⟨wr.heap.size, 0, none⟩ 1 1 [.string (s.extract 0 m)] (by rfl) (by rfl) (cells_newm wr _ (0, 0) _ _ rfl _ rfl) (one_all rfl) (by unfold maxLen; omega) (by omega) (below_drew1 (hBl.out.alloc hBl.out.size _)) (Nat.le_trans hBl.out.size (by simp)) (k + 1) rfl ?_; intro A6 c6 w6 ho6 hg6 hb6 hs6)) | fail)
        go_wp2_with fail
        have j1 : OwnT w6 w1.heap.size A6 (k + 1) c6 (L ++ [s.extract 0 m]) := by
          unfold OwnT
          rw [List.map_append]
          exact ho6.out
        exact ⟨⟨k + 1, L ++ [s.extract 0 m], A6, c6, by omega, by omega, by go_num, rfl, j1, hb6⟩, by simp [intOf]; omega⟩
      · obtain rfl : k = 10 := by omega
        have e1 : wr.cell? ⟨w.heap.size, 2, none⟩ = some (.string e.topic) := hkk.cell 2
        have e2 : wr.cell? ⟨w.heap.size, 3, none⟩ = some (.string e.group) := hkk.cell 3
        have f1 := hkk.thaw 2
        have f2 := hkk.thaw 3
        have f10 := hkk.thaw 13
        obtain ⟨m1, hm1, hm2, hm3⟩ := int_min e.topic.size 30 (by omega)
        obtain ⟨m2, hn1, hn2, hn3⟩ := int_min e.group.size 30 (by omega)
        have hm4 : (m1 : Int) ≤ (e.topic.size : Int) := by omega
        have hm5 : (0 : Int) ≤ (m1 : Int) := by omega
        have hn4 : (m2 : Int) ≤ (e.group.size : Int) := by omega
        have hn5 : (0 : Int) ≤ (m2 : Int) := by omega
        have HKK := Lib.hid hkk
        have HKR := Lib.hid (HK2.out.ext hBl.out)
        have hk3 : Bk ((((wr.setCell ⟨w.heap.size, 13, none⟩ (.slice A3 10 c3)).setCell ⟨w.heap.size, 2, none⟩ (.string (e.topic.extract 0 m1))).setCell ⟨w.heap.size, 3, none⟩ (.string (e.group.extract 0 m2))).drew) w.heap.size 47 #[.int .i64 e.corr, .int .i64 e.kind, .string (e.topic.extract 0 m1), .string (e.group.extract 0 m2), .int .i64 e.part, .int .i64 e.parts, .int .i64 e.first, .int .i64 e.off, .int .i64 e.most, .int .i64 e.time, .int .i64 e.bat.time, .int .i64 e.bat.prod, .int .i64 e.bat.seq, .slice A3 10 c3] := Bk.drawn1 (((HKK.out.put 13 (.slice A3 10 c3)).put 2 (.string (e.topic.extract 0 m1))).put 3 (.string (e.group.extract 0 m2)))
        have hr3 := Bk.drawn1 (((HKR.out.far (p := ⟨w.heap.size, 13, none⟩) (show w.heap.size + 1 ≠ w.heap.size by omega) (.slice A3 10 c3)).far (p := ⟨w.heap.size, 2, none⟩) (show w.heap.size + 1 ≠ w.heap.size by omega) (.string (e.topic.extract 0 m1))).far (p := ⟨w.heap.size, 3, none⟩) (show w.heap.size + 1 ≠ w.heap.size by omega) (.string (e.group.extract 0 m2)))
        have hld := ldA_bk hk3
        have hst := stA_row hr3 rfl e.corr e.kind (e.topic.extract 0 m1) (e.group.extract 0 m2) e.part e.parts e.first e.off e.most e.time e.bat.time e.bat.prod e.bat.seq A3 10 c3
        have HR3 := Lib.hid hr3
        have hgw := ((grown_set wr ⟨w.heap.size, 13, none⟩ (.slice A3 10 c3)).trans (grown_set _ ⟨w.heap.size, 2, none⟩ (.string (e.topic.extract 0 m1)))).trans (grown_set _ ⟨w.heap.size, 3, none⟩ (.string (e.group.extract 0 m2)))
        have hbw := below_drew1 (below_grown (HB1.out.trans (below_le HB1.out.size hBl.out)) (Nat.le_trans HB1.out.size hBl.out.size) hgw (Nat.le_refl _))
        have HBw := Lib.hid hbw
        have hown : OwnT (((((wr.setCell ⟨w.heap.size, 13, none⟩ (.slice A3 10 c3)).setCell ⟨w.heap.size, 2, none⟩ (.string (e.topic.extract 0 m1))).setCell ⟨w.heap.size, 3, none⟩ (.string (e.group.extract 0 m2))).drew).setRow (w.heap.size + 1) #[.int .i64 e.corr, .int .i64 e.kind, .string (e.topic.extract 0 m1), .string (e.group.extract 0 m2), .int .i64 e.part, .int .i64 e.parts, .int .i64 e.first, .int .i64 e.off, .int .i64 e.most, .int .i64 e.time, .int .i64 e.bat.time, .int .i64 e.bat.prod, .int .i64 e.bat.seq, .slice A3 10 c3]) w1.heap.size A3 10 c3 L := World.ownsRow.kept (show OwnT ((((wr.setCell ⟨w.heap.size, 13, none⟩ (.slice A3 10 c3)).setCell ⟨w.heap.size, 2, none⟩ (.string (e.topic.extract 0 m1))).setCell ⟨w.heap.size, 3, none⟩ (.string (e.group.extract 0 m2))).drew) w1.heap.size A3 10 c3 L from (show OwnT (((wr.setCell ⟨w.heap.size, 13, none⟩ (.slice A3 10 c3)).setCell ⟨w.heap.size, 2, none⟩ (.string (e.topic.extract 0 m1))).setCell ⟨w.heap.size, 3, none⟩ (.string (e.group.extract 0 m2))) w1.heap.size A3 10 c3 L from World.ownsRow.kept hOwn.out hgw (.inr (own_not hOwn.out HK1.out.lt)))) (grown_row _ _ _) (.inr (own_not hOwn.out HK2.out.lt))
        have HOwn := Lib.hid hown
        clear hkk hk3 hr3 hgw hbw hown
        go_wp2_with fail
        go_region
        go_wp2_with fail
        exact bodyPost_ret (results_cell_row rfl _ _ (w.heap.size + 1) _ _ (0, 0) _ rfl (HR3.out.row _) Tryz.underlying47 rfl size_a) rfl ⟨⟨e.corr, e.kind, e.topic.extract 0 m1, e.group.extract 0 m2, e.part, e.parts, e.first, e.off, e.most, e.time, ⟨e.bat.time, e.bat.prod, e.bat.seq, L⟩⟩, A3, 10, c3, rfl, HOwn.out.reads, below_row HBw.out HBw.out.size (by omega) _, fun ad e => ⟨Nat.le_trans HB1.out.size (HOwn.out.prov ad e).1, (HOwn.out.prov ad e).2⟩⟩
    · obtain rfl : k = n := by omega
      have e1 : wr.cell? ⟨w.heap.size, 2, none⟩ = some (.string e.topic) := hkk.cell 2
      have e2 : wr.cell? ⟨w.heap.size, 3, none⟩ = some (.string e.group) := hkk.cell 3
      have f1 := hkk.thaw 2
      have f2 := hkk.thaw 3
      have f10 := hkk.thaw 13
      obtain ⟨m1, hm1, hm2, hm3⟩ := int_min e.topic.size 30 (by omega)
      obtain ⟨m2, hn1, hn2, hn3⟩ := int_min e.group.size 30 (by omega)
      have hm4 : (m1 : Int) ≤ (e.topic.size : Int) := by omega
      have hm5 : (0 : Int) ≤ (m1 : Int) := by omega
      have hn4 : (m2 : Int) ≤ (e.group.size : Int) := by omega
      have hn5 : (0 : Int) ≤ (m2 : Int) := by omega
      have HKK := Lib.hid hkk
      have HKR := Lib.hid (HK2.out.ext hBl.out)
      have hk3 : Bk ((((wr.setCell ⟨w.heap.size, 13, none⟩ (.slice A3 k c3)).setCell ⟨w.heap.size, 2, none⟩ (.string (e.topic.extract 0 m1))).setCell ⟨w.heap.size, 3, none⟩ (.string (e.group.extract 0 m2))).drew) w.heap.size 47 #[.int .i64 e.corr, .int .i64 e.kind, .string (e.topic.extract 0 m1), .string (e.group.extract 0 m2), .int .i64 e.part, .int .i64 e.parts, .int .i64 e.first, .int .i64 e.off, .int .i64 e.most, .int .i64 e.time, .int .i64 e.bat.time, .int .i64 e.bat.prod, .int .i64 e.bat.seq, .slice A3 k c3] := Bk.drawn1 (((HKK.out.put 13 (.slice A3 k c3)).put 2 (.string (e.topic.extract 0 m1))).put 3 (.string (e.group.extract 0 m2)))
      have hr3 := Bk.drawn1 (((HKR.out.far (p := ⟨w.heap.size, 13, none⟩) (show w.heap.size + 1 ≠ w.heap.size by omega) (.slice A3 k c3)).far (p := ⟨w.heap.size, 2, none⟩) (show w.heap.size + 1 ≠ w.heap.size by omega) (.string (e.topic.extract 0 m1))).far (p := ⟨w.heap.size, 3, none⟩) (show w.heap.size + 1 ≠ w.heap.size by omega) (.string (e.group.extract 0 m2)))
      have hld := ldA_bk hk3
      have hst := stA_row hr3 rfl e.corr e.kind (e.topic.extract 0 m1) (e.group.extract 0 m2) e.part e.parts e.first e.off e.most e.time e.bat.time e.bat.prod e.bat.seq A3 k c3
      have HR3 := Lib.hid hr3
      have hgw := ((grown_set wr ⟨w.heap.size, 13, none⟩ (.slice A3 k c3)).trans (grown_set _ ⟨w.heap.size, 2, none⟩ (.string (e.topic.extract 0 m1)))).trans (grown_set _ ⟨w.heap.size, 3, none⟩ (.string (e.group.extract 0 m2)))
      have hbw := below_drew1 (below_grown (HB1.out.trans (below_le HB1.out.size hBl.out)) (Nat.le_trans HB1.out.size hBl.out.size) hgw (Nat.le_refl _))
      have HBw := Lib.hid hbw
      have hown : OwnT (((((wr.setCell ⟨w.heap.size, 13, none⟩ (.slice A3 k c3)).setCell ⟨w.heap.size, 2, none⟩ (.string (e.topic.extract 0 m1))).setCell ⟨w.heap.size, 3, none⟩ (.string (e.group.extract 0 m2))).drew).setRow (w.heap.size + 1) #[.int .i64 e.corr, .int .i64 e.kind, .string (e.topic.extract 0 m1), .string (e.group.extract 0 m2), .int .i64 e.part, .int .i64 e.parts, .int .i64 e.first, .int .i64 e.off, .int .i64 e.most, .int .i64 e.time, .int .i64 e.bat.time, .int .i64 e.bat.prod, .int .i64 e.bat.seq, .slice A3 k c3]) w1.heap.size A3 k c3 L := World.ownsRow.kept (show OwnT ((((wr.setCell ⟨w.heap.size, 13, none⟩ (.slice A3 k c3)).setCell ⟨w.heap.size, 2, none⟩ (.string (e.topic.extract 0 m1))).setCell ⟨w.heap.size, 3, none⟩ (.string (e.group.extract 0 m2))).drew) w1.heap.size A3 k c3 L from (show OwnT (((wr.setCell ⟨w.heap.size, 13, none⟩ (.slice A3 k c3)).setCell ⟨w.heap.size, 2, none⟩ (.string (e.topic.extract 0 m1))).setCell ⟨w.heap.size, 3, none⟩ (.string (e.group.extract 0 m2))) w1.heap.size A3 k c3 L from World.ownsRow.kept hOwn.out hgw (.inr (own_not hOwn.out HK1.out.lt)))) (grown_row _ _ _) (.inr (own_not hOwn.out HK2.out.lt))
      have HOwn := Lib.hid hown
      clear hkk hk3 hr3 hgw hbw hown
      go_wp2_with fail
      go_region
      go_wp2_with fail
      exact bodyPost_ret (results_cell_row rfl _ _ (w.heap.size + 1) _ _ (0, 0) _ rfl (HR3.out.row _) Tryz.underlying47 rfl size_a) rfl ⟨⟨e.corr, e.kind, e.topic.extract 0 m1, e.group.extract 0 m2, e.part, e.parts, e.first, e.off, e.most, e.time, ⟨e.bat.time, e.bat.prod, e.bat.seq, L⟩⟩, A3, k, c3, rfl, HOwn.out.reads, below_row HBw.out HBw.out.size (by omega) _, fun ad e => ⟨Nat.le_trans HB1.out.size (HOwn.out.prov ad e).1, (HOwn.out.prov ad e).2⟩⟩
theorem afew_any (e : Ask) (A : Option Addr) (n c : Nat) (w : World) (hr : RdT w A n c e.bat.vals) :
    Calls Tryz.prog 25 #[.agg #[.int .i64 e.corr, .int .i64 e.kind, .string e.topic, .string e.group, .int .i64 e.part, .int .i64 e.parts, .int .i64 e.first, .int .i64 e.off, .int .i64 e.most, .int .i64 e.time, .int .i64 e.bat.time, .int .i64 e.bat.prod, .int .i64 e.bat.seq, .slice A n c]] w fun er w' => ∃ (x : Ask) (A' : Option Addr) (n' c' : Nat), er = .returned (.agg #[.int .i64 x.corr, .int .i64 x.kind, .string x.topic, .string x.group, .int .i64 x.part, .int .i64 x.parts, .int .i64 x.first, .int .i64 x.off, .int .i64 x.most, .int .i64 x.time, .int .i64 x.bat.time, .int .i64 x.bat.prod, .int .i64 x.bat.seq, .slice A' n' c']) ∧ RdT w' A' n' c' x.bat.vals ∧ Below w.heap.size w w' :=
  (afew_prov e A n c w hr).mono fun _ _ ⟨x, A', n', c', h1, h2, h3, _⟩ => ⟨x, A', n', c', h1, h2, h3⟩
end Go.Proofs.YtpfdbbcfcimmfaaGreatDoor
