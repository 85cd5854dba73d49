/-
  entry: made, of an entry that produces.
-/
import Derived.Test.YtpfdbbcfcimmfaaGreatDoorEMade
import Derived.Lib.ConvBytes
namespace Go.Proofs.YtpfdbbcfcimmfaaGreatDoor
open Go.RowKit
attribute [local go_sem ↓] ldB_eq stB_eq ldE_eq stE_eq sliced_past
attribute [local go_sem] pastA_zero pastA_some

/-- a text turned to bytes -/
theorem conv_bytes (w : World) (s : ByteArray) (hs : s.size ≤ maxLen) : ∃ w' c, (convert 9 27 (.string s)).run Tryz.prog w = .ok (.slice (some ⟨w.heap.size, 0, none⟩) s.size c) w' ∧ RdB w' (some ⟨w.heap.size, 0, none⟩) s.size c s.data.toList ∧ Below w.heap.size w w' := by
  refine ⟨Lib.bytesWorld w 5 s, grownCap w s.size 0 5, Lib.run_convert_string_bytes w _ _ 5 s Tryz.underlying9 Tryz.underlying27 Tryz.underlying5, ?_, ?_⟩
  · refine ⟨by rw [bvs_len, Lib.size_eq], grownCap_ge _ _ _ _, by have := grownCap_le_maxLen w s.size 0 5 hs; unfold maxLen at this; exact this, fun k u hu => ⟨_, rfl, (show w.heap.size < _ by rw [Lib.bytesWorld_size]; omega), ?_⟩⟩
    have hk := (List.getElem?_eq_some_iff.1 hu).1
    rw [bvs_len, ← Lib.size_eq] at hk
    have hk2 : k < s.data.toList.length := by rw [← Lib.size_eq]; exact hk
    have e : s.data.toList.getD k 0 = s.data.toList[k] := by rw [List.getD_eq_getElem?_getD, List.getElem?_eq_getElem hk2]; rfl
    rw [Addr.add_none, Nat.zero_add, Lib.bytesWorld_cell w 5 s k hk, ← hu, e]
    unfold bvs
    rw [List.getElem?_map, List.getElem?_eq_getElem hk2]
    rfl
  · exact ⟨rfl, rfl, rfl, by rw [Lib.bytesWorld_size]; omega, fun i hi => Lib.bytesWorld_at_old w _ s i hi⟩
theorem stB_mid {w : World} {G : Nat} {k : Int} {t g : ByteArray} {part parts first off : Int} {x7 x8 x9 x10 : Value} (h : Bk w G 26 #[.int .i64 k, .string t, .string g, .int .i64 part, .int .i64 parts, .int .i64 first, .int .i64 off, x7, x8, x9, x10]) (b : Bat) (A : Option Addr) (n c : Nat) :
    ∃ w', (stB (.pointer (some ⟨G, 7, none⟩)) (.agg #[.int .i64 b.time, .int .i64 b.prod, .int .i64 b.seq, .slice A n c])).run Tryz.prog w = .ok () w' ∧ Bk w' G 26 #[.int .i64 k, .string t, .string g, .int .i64 part, .int .i64 parts, .int .i64 first, .int .i64 off, .int .i64 b.time, .int .i64 b.prod, .int .i64 b.seq, .slice A n c] ∧ w.grownBy w' (some G) := by
  refine ⟨w.setCells G 7 [.int .i64 b.time, .int .i64 b.prod, .int .i64 b.seq, .slice A n c], ?_, ?_, ?_⟩
  · unfold stB
    refine run_storeAt_mid w G 7 24 #[.int .i64 b.time, .int .i64 b.prod, .int .i64 b.seq, .slice A n c] (fun j hj => ⟨?_, h.thaw _⟩) size_b (all_oneCell_toArray (one_all rfl))
    rw [h.cell]
    have hj : j < 4 := hj
    match j, hj with
    | 0, _ => rfl
    | 1, _ => rfl
    | 2, _ => rfl
    | 3, _ => rfl
  · exact (((h.put 7 (.int .i64 b.time)).put 8 (.int .i64 b.prod)).put 9 (.int .i64 b.seq)).put 10 (.slice A n c)
  · exact (((grown_set w ⟨G, 7, none⟩ _).trans (grown_set _ ⟨G, 8, none⟩ _)).trans (grown_set _ ⟨G, 9, none⟩ _)).trans (grown_set _ ⟨G, 10, none⟩ _)
set_option maxRecDepth 100000 in
set_option maxHeartbeats 4000000 in
theorem made_3 (gv c : Nat) (m0 m1 m2 : MVal) (w : World) (hg : gv < w.heap.size) (hs2 : m2.v.s.size ≤ maxLen) (d0 : w.cell? ⟨gv, 1, none⟩ = some (.string m0.v.s)) (d1 : w.cell? ⟨gv, 3, none⟩ = some (.int .i64 m1.v.n)) (d2 : w.cell? ⟨gv, 7, none⟩ = some (.string m2.v.s)) :
    Calls Tryz.prog 39 #[.int .i64 3, .slice (some ⟨gv, 0, none⟩) 3 c] w fun e w' => ∃ b A' n' c' v, e = .returned (.tuple #[.agg #[.int .i64 3, .string m0.v.s, .string ⟨#[]⟩, .int .i64 m1.v.n, .int .i64 0, .int .i64 0, .int .i64 0, .int .i64 b.time, .int .i64 b.prod, .int .i64 b.seq, .slice A' n' c'], v]) ∧ BatR m2.v.s.data.toList w.heap.size w' b A' n' c' v ∧ Below w.heap.size w w' := by
  have hst0 := stE_newAt (w.alloc (.cells zE 26)) (w.heap.size + 1) (by simp) 3 ⟨#[]⟩ ⟨#[]⟩ 0 0 0 0 0 0 0 none 0 0 zE rfl
  have hbk := two_ent w 3 m0.v.s ⟨#[]⟩ m1.v.n 0 0 0 0 0 0 none 0 0
  have hbl := below_two w (.cells zE 26) (.cells #[.int .i64 3, .string m0.v.s, .string ⟨#[]⟩, .int .i64 m1.v.n, .int .i64 0, .int .i64 0, .int .i64 0, .int .i64 0, .int .i64 0, .int .i64 0, .slice none 0 0] 26)
  have HBK := Lib.hid hbk
  have HBL := Lib.hid hbl
  clear hbk hbl
  simp only [zE] at hst0 HBK HBL
  have FS : Hid (∀ w', Below w.heap.size w w' → (Below w.heap.size w w' ∧ w'.cell? ⟨gv, 1, none⟩ = some (.string m0.v.s) ∧ w'.cell? ⟨gv, 3, none⟩ = some (.int .i64 m1.v.n) ∧ w'.cell? ⟨gv, 7, none⟩ = some (.string m2.v.s))) := fun w' hb => ⟨hb, (hb.cell (p := ⟨gv, 1, none⟩) hg).trans d0, (hb.cell (p := ⟨gv, 3, none⟩) hg).trans d1, (hb.cell (p := ⟨gv, 7, none⟩) hg).trans d2⟩
  clear d0 d1 d2
  go_enter Tryz.func39, Tryz.ntmps39
  go_wp2_with fail
  go_region_held3 (fun w' => Below w.heap.size w w' ∧ w'.cell? ⟨gv, 1, none⟩ = some (.string m0.v.s) ∧ w'.cell? ⟨gv, 3, none⟩ = some (.int .i64 m1.v.n) ∧ w'.cell? ⟨gv, 7, none⟩ = some (.string m2.v.s)) (first | exact FS.out _ (below_drew1 (below_two w _ _))) (first | fail)
  all_goals
    have hk1 : Bk ((w.alloc (.cells #[.int .i64 0, .string ⟨#[]⟩, .string ⟨#[]⟩, .int .i64 0, .int .i64 0, .int .i64 0, .int .i64 0, .int .i64 0, .int .i64 0, .int .i64 0, .slice none 0 0] 26)).alloc (.cells #[.int .i64 3, .string m0.v.s, .string ⟨#[]⟩, .int .i64 m1.v.n, .int .i64 0, .int .i64 0, .int .i64 0, .int .i64 0, .int .i64 0, .int .i64 0, .slice none 0 0] 26)).drew w.heap.size 26 #[.int .i64 0, .string ⟨#[]⟩, .string ⟨#[]⟩, .int .i64 0, .int .i64 0, .int .i64 0, .int .i64 0, .int .i64 0, .int .i64 0, .int .i64 0, .slice none 0 0] := Bk.drawn1 HBK.out.1
    have hk2 : Bk ((w.alloc (.cells #[.int .i64 0, .string ⟨#[]⟩, .string ⟨#[]⟩, .int .i64 0, .int .i64 0, .int .i64 0, .int .i64 0, .int .i64 0, .int .i64 0, .int .i64 0, .slice none 0 0] 26)).alloc (.cells #[.int .i64 3, .string m0.v.s, .string ⟨#[]⟩, .int .i64 m1.v.n, .int .i64 0, .int .i64 0, .int .i64 0, .int .i64 0, .int .i64 0, .int .i64 0, .slice none 0 0] 26)).drew (w.heap.size + 1) 26 #[.int .i64 3, .string m0.v.s, .string ⟨#[]⟩, .int .i64 m1.v.n, .int .i64 0, .int .i64 0, .int .i64 0, .int .i64 0, .int .i64 0, .int .i64 0, .slice none 0 0] := Bk.drawn1 HBK.out.2
    have hB1 := below_drew1 HBL.out
    clear HBK HBL hst0
    generalize ((w.alloc (.cells #[.int .i64 0, .string ⟨#[]⟩, .string ⟨#[]⟩, .int .i64 0, .int .i64 0, .int .i64 0, .int .i64 0, .int .i64 0, .int .i64 0, .int .i64 0, .slice none 0 0] 26)).alloc (.cells #[.int .i64 3, .string m0.v.s, .string ⟨#[]⟩, .int .i64 m1.v.n, .int .i64 0, .int .i64 0, .int .i64 0, .int .i64 0, .int .i64 0, .int .i64 0, .slice none 0 0] 26)).drew = w1 at hk1 hk2 hB1 ⊢
    have d2 := (FS.out _ hB1).2.2.2
    obtain ⟨w2, cp, hcv, hrd, hb2⟩ := conv_bytes w1 m2.v.s hs2
    have HG := Lib.hid (bget_any _ _ _ _ w2 hrd)
    have HK1 := Lib.hid (hk1.ext hb2)
    have HK2 := Lib.hid (hk2.ext hb2)
    have HB2 := Lib.hid (hB1.trans (below_le hB1.size hb2))
    clear hrd hb2 hB1 hk1 hk2 FS
    go_wp2_with fail
    with_reducible refine HG.out.mono ?_
    rintro e w3 ⟨b, A3, n3, c3, v3, rfl, hbr, hb3⟩
    obtain ⟨w4, hst4, hk4, hg4⟩ := stB_mid (HK2.out.ext hb3) b A3 n3 c3
    have hk1' : Bk w4 w.heap.size 26 #[.int .i64 0, .string ⟨#[]⟩, .string ⟨#[]⟩, .int .i64 0, .int .i64 0, .int .i64 0, .int .i64 0, .int .i64 0, .int .i64 0, .int .i64 0, .slice none 0 0] := (HK1.out.ext hb3).keptG hg4 (by omega)
    have hld := ldE_bk hk4
    have hst := stE_row hk1' rfl 3 m0.v.s ⟨#[]⟩ m1.v.n 0 0 0 b.time b.prod b.seq A3 n3 c3
    have HK4 := Lib.hid hk1'
    have HBR := Lib.hid hbr
    have HB3 := Lib.hid (HB2.out.trans (below_le HB2.out.size hb3))
    have HG4 := Lib.hid hg4
    have hszz := Lib.hid HK2.out.lt
    clear hk4 hk1' hbr hb3 hg4 d2 hcv
    go_wp2_with fail
    refine bodyPost_ret (res_ent (u := 5) rfl _ _ w.heap.size 3 m0.v.s ⟨#[]⟩ m1.v.n 0 0 0 b.time b.prod b.seq A3 n3 c3 rfl (Bk.row HK4.out _)) rfl ⟨b, A3, n3, c3, v3, rfl, ?_, ?_⟩
    · obtain ⟨r1, r2, r3⟩ := HBR.out
      refine ⟨RdT.kept (RdT.kept r1 HG4.out ?_) (grown_row _ _ _) ?_, fun ad e => ?_, r3⟩
      · intro ad e e2
        have := r2 ad e
        have h2 := Option.some.inj e2
        have := hszz.out
        omega
      · intro ad e e2
        have := r2 ad e
        have h2 := Option.some.inj e2
        have := hszz.out
        omega
      · have := r2 ad e
        have := hszz.out
        omega
    · exact below_row (below_grown HB3.out HB3.out.size HG4.out (by omega)) (Nat.le_trans HB3.out.size HG4.out.size) (Nat.le_refl _) _
end Go.Proofs.YtpfdbbcfcimmfaaGreatDoor
