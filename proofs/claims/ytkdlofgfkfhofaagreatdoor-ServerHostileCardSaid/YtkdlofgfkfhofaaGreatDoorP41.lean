import Derived.Test.YtkdlofgfkfhofaaGreatDoorP40
import Derived.Test.YtkdlofgfkfhofaaGreatDoorP35
import Derived.Test.YtkdlofgfkfhofaaGreatDoorP34
/-
  staveplay: Frame of an ask.
-/
namespace Go.Proofs.YtkdlofgfkfhofaaGreatDoor
open Go.RowKit Go.Maps

/-- an ask's frame -/
def frA (a : Ask) : List UInt8 := [UInt8.ofNat (putA a).length, UInt8.ofNat ((putA a).length / 256)] ++ putA a
theorem w8_ofNat (M : Nat) : w8 (UInt8.ofNat M) = (M : Int) % 256 := by
  unfold w8
  rw [UInt8.toNat_ofNat']
  omega
theorem hdr2_own (M : Nat) (hM : M ≤ 65535) (w1 : World) (B : Nat) (hB : B ≤ w1.heap.size) : OwnB (w1.alloc (.cells #[.int .u8 ((M : Int) % 256), .int .u8 ((M : Int) / 256)] 5)) B (.slice (some ⟨w1.heap.size, 0, none⟩) 2 2) [UInt8.ofNat M, UInt8.ofNat (M / 256)] := by
  have e : (#[.int .u8 ((M : Int) % 256), .int .u8 ((M : Int) / 256)] : Array Value) = (bvs [UInt8.ofNat M, UInt8.ofNat (M / 256)]).toArray := by
    show _ = (#[.int .u8 (w8 (UInt8.ofNat M)), .int .u8 (w8 (UInt8.ofNat (M / 256)))] : Array Value)
    rw [w8_ofNat, w8_ofNat]
    rw [show ((M / 256 : Nat) : Int) % 256 = (M : Int) / 256 by omega]
  rw [e]
  exact ((show Bb (w1.alloc (.cells (bvs [UInt8.ofNat M, UInt8.ofNat (M / 256)]).toArray 5)) w1.heap.size 5 [UInt8.ofNat M, UInt8.ofNat (M / 256)] from Bk.made w1 5 _).owns (n := 2) rfl (by omega)).own hB 2 rfl
set_option maxRecDepth 100000 in
set_option maxHeartbeats 2000000 in
theorem playFrame_any (a : Ask) (A : Option Addr) (n c : Nat) (w : World) (hr : RdT w A n c a.bat.vals) :
    Calls Tryz.prog 9 #[.agg (askC a.corr a.kind a.topic a.group a.part a.parts a.first a.off a.most a.time a.bat.time a.bat.prod a.bat.seq A n c)] w fun er w' => ∃ A' c', er = .returned (.slice A' ((putA a).length + 2) c') ∧ OwnB w' w.heap.size (.slice A' ((putA a).length + 2) c') (frA a) ∧ Below w.heap.size w w' := by
  have hb0 := below_new w (.cells (askC a.corr a.kind a.topic a.group a.part a.parts a.first a.off a.most a.time a.bat.time a.bat.prod a.bat.seq A n c) 32)
  have hld := ldA_bk (Bk.made w 32 (askC a.corr a.kind a.topic a.group a.part a.parts a.first a.off a.most a.time a.bat.time a.bat.prod a.bat.seq A n c))
  have HP := Lib.hid (aPut_any a A n c _ (hr.ext hb0))
  have HB0 := Lib.hid hb0
  have hl606 := putA_len a
  clear hb0 hr
  go_enter Tryz.func9, Tryz.ntmps9
  go_wp2_with fail
  with_reducible refine HP.out.mono ?_
  rintro er w1 ⟨A1, M, c1, rfl, ho1, hb1⟩
  have hM := ho1.rd.len
  have HM := Lib.hid hM
  have HB1 := Lib.hid (HB0.out.trans (below_le HB0.out.size hb1))
  have HO1 : Hid (OwnB w1 w.heap.size (.slice A1 M c1) (putA a)) := ho1.more HB0.out.size
  rw [hM] at hl606
  clear hM ho1 hb1 hld
  have hbh := below_new w1 (.cells #[.int .u8 ((M : Int) % 256), .int .u8 ((M : Int) / 256)] 5)
  have HOh := Lib.hid (hdr2_own M (by omega) w1 w.heap.size HB1.out.size)
  have HRh := Lib.hid (RdB.ext HO1.out.rd hbh)
  have HBh := Lib.hid (HB1.out.trans (below_le HB1.out.size hbh))
  clear hbh
  go_wp2_with (first | (at_builtin; go_loud (refine wpList_append_bytes rfl (.tmp 13) (.tmp 14) rfl w.heap.size w _ [UInt8.ofNat M, UInt8.ofNat (M / 256)] rfl HOh.out A1 M c1 (putA a) rfl HRh.out (by simp; omega) HBh.out HBh.out.size (M + 2) (by simp; omega) ?_); intro A6 c6 w6 ho6 hb6 hs6) | fail)
  go_ret
  rw [HM.out]
  refine ⟨_, _, rfl, ?_, hb6⟩
  unfold frA
  rw [HM.out]
  exact ho6.out
end Go.Proofs.YtkdlofgfkfhofaaGreatDoor

/-
  staveplay: Replies out of frames.
-/
namespace Go.Proofs.YtkdlofgfkfhofaaGreatDoor
open Go.RowKit Go.Maps

/-- a reply's row -/
structure RpR where
  co : Int
  er : Int
  A : Option Addr
  c : Nat
def RpR.cells (r : RpR) : List Value := [.int .i64 r.co, .int .i64 r.er, .int .i64 0, .int .i64 0, .slice r.A 0 r.c, .slice none 0 0]
theorem rp6 : ∀ x : RpR, x.cells.length = 6 := fun _ => rfl
def OwnRs (w : World) (B : Nat) (v : Value) (L : List RpR) : Prop := w.ownsRow B 43 6 v L.length (L.flatMap RpR.cells)
theorem info_rp : (Tryz.prog.info? 43).map (fun i => (i.zero, i.size, i.bytes)) = some (some (.agg #[.int .i64 0, .int .i64 0, .int .i64 0, .int .i64 0, .slice none 0 0, .slice none 0 0]), 6, 80) := by kernel_rfl
/-- what replies tell -/
def RpL (L : List RpR) (es : List Ev) : Prop := L.map (fun r => (r.co, r.er)) = es.map evR
theorem RpL.snoc {L : List RpR} {es : List Ev} (h : RpL L es) {e : Ev} (A : Option Addr) (c : Nat) : RpL (L ++ [⟨(evR e).1, (evR e).2, A, c⟩]) (es ++ [e]) := by
  unfold RpL at h ⊢
  rw [List.map_append, List.map_append, h]
  rfl
theorem take_23 (x y : UInt8) (R T : List UInt8) (h : R.length = 23) : ((x :: y :: (R ++ T)).drop 2).take 23 = R := List.take_left' h
theorem drop_25 (x y : UInt8) (R T : List UInt8) (h : R.length = 23) : (x :: y :: (R ++ T)).drop 25 = T := List.drop_left' h
attribute [local go_sem ↓] sliced_past ldRp_eq
attribute [local go_sem] pastA_zero w8_nn w8_256 wrap_i64_w8 wrap64_w8 or2
set_option maxRecDepth 100000 in
set_option maxHeartbeats 4000000 in
theorem replies_any {A : Option Addr} {n c : Nat} {es : List Ev} {w : World} (hr : RdB w A n c (es.flatMap evB)) (he : es.length ≤ 30000) :
    Calls Tryz.prog 38 #[.slice A n c] w fun e w' => ∃ A' c' L, e = .returned (.tuple #[.slice A' es.length c', .bool true]) ∧ RpL L es ∧ OwnRs w' w.heap.size (.slice A' es.length c') L ∧ Below w.heap.size w w' := by
  obtain ⟨ii, hi0, hz0, hs0, hy0⟩ := info_parts info_rp
  have HI := Lib.hid hi0
  have HZ := Lib.hid hz0
  have HSz := Lib.hid hs0
  have HY := Lib.hid hy0
  have HR := Lib.hid hr
  have hn := hr.len
  rw [outs_len] at hn
  have HN := Lib.hid hn
  clear hi0 hz0 hs0 hy0 hr hn
  go_enter Tryz.func38, Tryz.ntmps38
  go_wp2_with fail
  go_loopw [0, 4] (fun b o wr => ∃ (k n1 : Nat) (L : List RpR) (A1 : Option Addr) (c1 : Nat) (A2 : Option Addr) (c2 : Nat), k ≤ es.length ∧ b = .slice A1 n1 c1 ∧ o = .slice A2 k c2 ∧ Hid (RdB w A1 n1 c1 ((es.drop k).flatMap evB)) ∧ Hid (OwnRs wr w.heap.size (.slice A2 k c2) L) ∧ Hid (RpL L (es.take k)) ∧ Hid (Below w.heap.size w wr)) (fun b _ _ => match b with | .slice _ m _ => m | _ => 0)
  case atStart => exact ⟨0, n, [], A, c, none, 0, Nat.zero_le _, rfl, rfl, HR.out, World.ownsRow_nil _ _ _ _, rfl, Below.refl _ _⟩
  case round =>
    obtain ⟨k, n1, L, A1, c1, A2, c2, hk, rfl, rfl, hR, hO, hL, hB⟩ := hrel
    have hn1 := hR.out.len
    rw [outs_len, List.length_drop] at hn1
    have hcap := hR.out.cap
    have hbig := hR.out.big
    by_cases hlt : k < es.length
    · obtain ⟨e, he1⟩ : ∃ e, es[k]? = some e := ⟨es[k], List.getElem?_eq_getElem hlt⟩
      have hdr : es.drop k = e :: es.drop (k + 1) := by
        obtain ⟨h1, h2⟩ := List.getElem?_eq_some_iff.1 he1
        rw [List.drop_eq_getElem_cons h1, h2]
      obtain ⟨x, hx⟩ : ∃ x : UInt8, x = 23 := ⟨_, rfl⟩
      obtain ⟨y, hy⟩ : ∃ y : UInt8, y = 0 := ⟨_, rfl⟩
      have hfl : (es.drop k).flatMap evB = x :: y :: (rpB (evR e).1 (evR e).2 ++ (es.drop (k + 1)).flatMap evB) := by
        rw [hdr, List.flatMap_cons, hx, hy]
        rfl
      have hRw := hR.out
      rw [hfl] at hRw
      have hR2 := hRw.ext hB.out
      obtain ⟨ad, rfl, d0, d1⟩ := two_bytes hR2
      have hxy : len2 x y = 23 := by rw [hx, hy]; rfl
      have d0 : wr.cell? ad = some (.int .u8 (w8 x)) := d0
      have d1 : wr.cell? ⟨ad.block, ad.off + 1, none⟩ = some (.int .u8 (w8 y)) := d1
      have hi0 : (0 : Int) < (n1 : Int) := by omega
      have hi1 : (1 : Int) < (n1 : Int) := by omega
      have hng : ¬ ((n1 : Int) < 2) := by omega
      have hgt : (n1 : Int) > 0 := by omega
      have hr23 : RdB wr (pastA (some ad) 2 c1 1) 23 (c1 - 2) (rpB (evR e).1 (evR e).2) := by
        have h1 := (hR2.past' 2 (by omega)).upto 23 (by omega)
        have h2 : ((x :: y :: (rpB (evR e).1 (evR e).2 ++ (es.drop (k + 1)).flatMap evB)).drop 2).take 23 = rpB (evR e).1 (evR e).2 := take_23 x y _ _ (rpB_len _ _)
        rwa [h2] at h1
      have hr25 : RdB w (pastA (some ad) 25 c1 1) (n1 - 25) (c1 - 25) ((es.drop (k + 1)).flatMap evB) := by
        have h1 := hRw.past' 25 (by omega)
        have h2 : (x :: y :: (rpB (evR e).1 (evR e).2 ++ (es.drop (k + 1)).flatMap evB)).drop 25 = (es.drop (k + 1)).flatMap evB := drop_25 x y _ _ (rpB_len _ _)
        rwa [h2] at h1
      have HR23 := Lib.hid hr23
      have HR25 := Lib.hid hr25
      have HTk : Hid (es.take (k + 1) = es.take k ++ [e]) := by
        show _ = _
        rw [List.take_add_one, he1]
        rfl
      clear hR hR2 hRw hfl hdr he1 hr23 hr25 hx hy
      go_upto_region 5 with fail
      go_quiet (fail)
      have hbq : Below wr.heap.size wr (wr.drewN nq) := ⟨rfl, rfl, rfl, Nat.le_refl _, fun _ _ => rfl⟩
      have HR23q := Lib.hid (HR23.out.ext hbq)
      have HOq : Hid (OwnRs (wr.drewN nq) w.heap.size (.slice A2 k c2) L) := own_turned (P := fun _ => False) hO.out (Turned.of_below hbq) (fun _ _ => id)
      have HBq := Lib.hid (hB.out.trans (below_le hB.out.size hbq))
      generalize wr.drewN nq = w2 at HR23q HOq HBq ⊢
      clear hbq d0 d1 HR23 hO hB
      have hq1 : ¬ ((23 : Int) > (n1 : Int) - 2) := by omega
      have hn25 : 25 ≤ n1 := by omega
      go_wp2_with fail
      with_reducible refine (rpGet_any (evR_ok e) HR23q.out).mono ?_
      rintro er3 w3 ⟨A0, c0, rfl, hv3, hb3⟩
      have HO3 : Hid (OwnRs w3 w.heap.size (.slice A2 k c2) L) := own_turned (P := fun _ => False) HOq.out (Turned.of_below hb3) (fun _ _ => id)
      have HB3 := Lib.hid (HBq.out.trans (below_le HBq.out.size hb3))
      clear hb3 hv3 HR23q HOq HBq
      go_wp2_with fail
      have hnq := below_new w3 (.cells (rpD (evR e).1 (evR e).2 0 0 A0 c0) 43)
      have hkq := Bk.made w3 43 (rpD (evR e).1 (evR e).2 0 0 A0 c0)
      have HOw : Hid (OwnRs (w3.alloc (.cells (rpD (evR e).1 (evR e).2 0 0 A0 c0) 43)) w.heap.size (.slice A2 k c2) L) := own_turned (P := fun _ => False) HO3.out (Turned.of_below hnq) (fun _ _ => id)
      have HBw := Lib.hid (HB3.out.trans (below_le HB3.out.size hnq))
      have hown : (Value.slice A2 k c2).ownBlock ≠ some w3.heap.size := fun h => by have := (World.ownsRow.lt HO3.out _ h).2; omega
      generalize w3.alloc (.cells (rpD (evR e).1 (evR e).2 0 0 A0 c0) 43) = wq at hkq HOw HBw ⊢
      generalize w3.heap.size = gq at hkq hown ⊢
      have HKq := Lib.hid hkq
      have hLk : L.length = k := by
        have h := congrArg List.length hL.out
        rw [List.length_map, List.length_map, List.length_take] at h
        omega
      have HOk : Hid (wq.ownsRow w.heap.size 43 6 (.slice A2 k c2) k (L.flatMap RpR.cells)) := by
        have h := HOw.out
        unfold OwnRs at h
        rw [hLk] at h
        exact h
      clear hnq hkq HO3 HB3
      have FS : Hid (∀ v, wq.grownBy v (Value.slice A2 k c2).ownBlock → ((ldRp (.pointer (some ⟨gq, 0, none⟩))).run Tryz.prog v = .ok (.agg (rpD (evR e).1 (evR e).2 0 0 A0 c0)) v)) := fun v hv => ldRpG_bk (Bk.keptO HKq.out hv hown)
      have hb25 : (0 : Int) ≤ 25 ∧ (25 : Int) ≤ (n1 : Int) := by omega
      have hb26 : (25 ≤ n1) = True := by simp; omega
      have hb27 : ((25 : Int) ≤ (n1 : Int)) = True := by simp; omega
      have hw25 : IntKind.i64.wrap (25 : Int) = 25 := by rw [IntKind.wrap_i64]; rfl
      have q0 : Below wq.heap.size wq wq.drew := below_drew1 (Below.refl _ _)
      have q1 : Below wq.heap.size wq (wq.alloc (.cells (rpD (evR e).1 (evR e).2 0 0 A0 c0) 43)).drew := below_drew1 (below_new wq (.cells (rpD (evR e).1 (evR e).2 0 0 A0 c0) 43))
      go_region_held3 (fun v => (ldRp (.pointer (some ⟨gq, 0, none⟩))).run Tryz.prog v = .ok (.agg (rpD (evR e).1 (evR e).2 0 0 A0 c0)) v) (first | exact FS.out _ ((grown_of_below q0).but _) | exact FS.out _ (((grown_of_below q1).but _).trans hg6.out) | exact FS.out _ ((grown_of_below q1).but _) | fail) (first | ((refine step_append_gen (by rfl) (.tmp 39) (.tmp 41) 38 (by rfl) 43 ii _ 6 80 Tryz.underlying38 HI.out HZ.out HSz.out HY.out (by rfl) (by omega) w.heap.size w _ k (L.flatMap RpR.cells) (by rfl) (World.ownsRow.alloc (show wq.ownsRow w.heap.size 43 6 (.slice A2 k c2) k (L.flatMap RpR.cells) from HOk.out) _) ⟨wq.heap.size, 0, none⟩ 1 1 (RpR.cells ⟨(evR e).1, (evR e).2, A0, c0⟩) (by rfl) (by rfl) (cells_newm wq _ (0, 0) _ _ rfl _ rfl) (one_all rfl) (by unfold maxLen; omega) (by omega) (below_drew1 (HBw.out.alloc HBw.out.size _)) (Nat.le_trans HBw.out.size (by simp)) (k + 1) rfl ?_; intro A6 c6 w6 ho6 hg6 hb6 hs6)) | fail)
      all_goals
        clear hb26 hb27 hb25
        go_wp2_with fail
        refine ⟨⟨k + 1, n1 - 25, L ++ [⟨(evR e).1, (evR e).2, A0, c0⟩], pastA (some ad) 25 c1 1, c1 - 25, A6, c6, by omega, rfl, rfl, ?_, ?_, ?_, hb6⟩, by simp; omega⟩
        · exact HR25
        · have hq : OwnRs w6 w.heap.size (.slice A6 (k + 1) c6) (L ++ [⟨(evR e).1, (evR e).2, A0, c0⟩]) := by
            unfold OwnRs
            rw [List.length_append, List.flatMap_append, hLk]
            simpa using ho6.out
          exact hq
        · rw [HTk.out]
          exact hL.out.snoc A0 c0
    · have hke : k = es.length := by omega
      have hn0 : n1 = 0 := by omega
      subst hn0
      have hL2 := hL.out
      rw [hke, List.take_length] at hL2
      have hO2 := hO.out
      rw [hke] at hO2
      go_wp2_with fail
      go_ret2
      rw [hke]
      exact ⟨A2, c2, L, rfl, hL2, hO2, hB.out⟩
end Go.Proofs.YtkdlofgfkfhofaaGreatDoor

/-
  stavelaw25: one.
-/
namespace Go.Proofs.YtkdlofgfkfhofaaGreatDoor
open Go.RowKit Go.Maps

theorem OwnRs.rows {w : World} {B : Nat} {A : Option Addr} {n c : Nat} {L : List RpR} (h : OwnRs w B (.slice A n c) L) : RdK w 6 A n c (L.map RpR.cells) := by
  have hn : n = L.length := by
    rcases h.2 with ⟨h1, h2⟩ | ⟨g, cap, cur, h1, _⟩
    · injection h1 with _ h3 _
      rw [h3, h2]
    · injection h1 with _ h3 _
  subst hn
  exact RdK.of_own RpR.cells rp6 (by omega) L h
theorem OwnRs.place {w : World} {B : Nat} {A : Option Addr} {n c : Nat} {L : List RpR} (h : OwnRs w B (.slice A n c) L) : ∀ ad, A = some ad → B ≤ ad.block := by
  intro ad e
  rcases h.2 with ⟨h1, _⟩ | ⟨g, cap, cur, h1, h2⟩
  · injection h1 with h1 _ _
    rw [h1] at e
    cases e
  · injection h1 with h1 _ _
    rw [h1] at e
    injection e with e
    subst e
    exact (World.ownsRow.lt h _ (by rw [h1]; rfl)).1
set_option maxRecDepth 100000 in
set_option maxHeartbeats 4000000 in
theorem one_any {w : World} {sv b r t g s tb gr : Nat} {me ws : Value} {last : Int} {cf : CfgM} {cs : Nat → CV} (hS : SvAt w sv b r t g s tb gr me ws last cf cs) (hl : SvL sv b t g s tb) {i : Nat} (hi : i < 4) {l : List UInt8} {p : Nat} {es : List Ev} (hC : CnAt w (cs i) sv b l p (es.flatMap evB)) (he : es.length ≤ 30000) :
    Calls Tryz.prog 11 #[.pointer (some ⟨sv, 0, none⟩), .int .i64 i] w fun e w' => ∃ A c L v, e = .returned (.slice A es.length c) ∧ RpL L es ∧ RdK w' 6 A es.length c (L.map RpR.cells) ∧ v.aw = (cs i).aw ∧ SvAt w' sv b r t g s tb gr me ws last cf (upC cs i v) ∧ CnAt w' v sv b l p [] ∧ Turned (fun j => j = sv) w w' ∧ (∀ ad, A = some ad → w.heap.size ≤ ad.block) := by
  obtain ⟨m, hm⟩ : ∃ m, (es.flatMap evB).length = m := ⟨_, rfl⟩
  have hol := outs_len es
  have hWt := svWaits_any hS.bk hi hC
  rw [hm] at hWt
  have hDr := svDrain_any hS.bk hl.b hi hC m m (by rw [hm]; exact Nat.min_self _) (by omega)
  rw [List.take_of_length_le (by omega), List.drop_of_length_le (by omega)] at hDr
  have HW := Lib.hid hWt
  have HD := Lib.hid hDr
  have HS := Lib.hid hS
  have HL := Lib.hid hl
  clear hS hl hC hol hWt hDr hm
  go_enter Tryz.func11, Tryz.ntmps11
  go_wp2_with (first | (go_at_call 18; go_loud (with_reducible refine HW.out.mono ?_); rintro er w1 ⟨rfl, rfl⟩) | fail)
  with_reducible refine HD.out.mono ?_
  rintro er w2 ⟨A2, c2, v2, rfl, hr2, hv2, hw2, hC2, hp2⟩
  have HS2 := Lib.hid (HS.out.step HL.out hw2)
  have HC2 := Lib.hid hC2
  have HT2 := Lib.hid hw2.tu
  have HRp := Lib.hid (replies_any hr2 he)
  clear hr2 hw2 hC2 hp2 HD HW
  go_wp2_with fail
  with_reducible refine HRp.out.mono ?_
  rintro er w3 ⟨A3, c3, L, rfl, hL3, hO3, hb3⟩
  have HS3 := Lib.hid (HS2.out.ext hb3)
  have HC3 := Lib.hid (HC2.out.turned (Turned.of_below (P := fun _ => False) hb3) (fun _ h => h.elim))
  have HT3 := Lib.hid (HT2.out.then_below hb3)
  have HL3 := Lib.hid hL3
  have HO3 := Lib.hid hO3.rows
  have hpl3 := hO3.place
  clear hb3 hL3 hO3 HRp
  go_wp2_with fail
  go_ret
  exact ⟨A3, c3, L, v2, rfl, HL3.out, HO3.out, hv2, HS3.out, HC3.out, HT3.out, fun ad e => Nat.le_trans HT2.out.size (hpl3 ad e)⟩
end Go.Proofs.YtkdlofgfkfhofaaGreatDoor

/-
  server: frames one behind the other; a step of bytes by what it tells.
-/
namespace Go.Proofs.YtkdlofgfkfhofaaGreatDoor
open Go.RowKit Go.Maps

/-- bytes with their length ahead of them -/
def frU (X : List UInt8) : List UInt8 := [UInt8.ofNat X.length, UInt8.ofNat (X.length / 256)] ++ X
theorem frA_is (a : Ask) : frA a = frU (putA a) := rfl
theorem len2_of {m : Nat} (h : m ≤ 65535) : len2 (UInt8.ofNat m) (UInt8.ofNat (m / 256)) = m := by
  unfold len2
  rw [UInt8.toNat_ofNat', UInt8.toNat_ofNat']
  omega
theorem pass_zero (l : List UInt8) : passM l 0 = l ∧ leftM l 0 = 0 := by
  unfold passM leftM
  simp
theorem pass_all (Z r : List UInt8) : passM (Z ++ r) Z.length = r ∧ leftM (Z ++ r) Z.length = 0 := by
  unfold passM leftM
  simp
theorem step_fr (X r : List UInt8) (h : X.length ≤ 1024) : stepM (frU X ++ r) 0 = some (.frame X, r, 0) := by
  unfold stepM
  rw [(pass_zero _).1, (pass_zero _).2]
  show (if len2 (UInt8.ofNat X.length) (UInt8.ofNat (X.length / 256)) ≤ 1024 then (if (X ++ r).length < len2 (UInt8.ofNat X.length) (UInt8.ofNat (X.length / 256)) then none else some (Ev.frame ((X ++ r).take (len2 (UInt8.ofNat X.length) (UInt8.ofNat (X.length / 256)))), (X ++ r).drop (len2 (UInt8.ofNat X.length) (UInt8.ofNat (X.length / 256))), 0)) else some (Ev.big, X ++ r, len2 (UInt8.ofNat X.length) (UInt8.ofNat (X.length / 256)))) = _
  rw [len2_of (by omega), if_pos h, if_neg (by rw [List.length_append]; omega), List.take_left' rfl, List.drop_left' rfl]
theorem step_big (Z r : List UInt8) (h1 : 1024 < Z.length) (h2 : Z.length ≤ 65535) : stepM (frU Z ++ r) 0 = some (.big, Z ++ r, Z.length) := by
  unfold stepM
  rw [(pass_zero _).1, (pass_zero _).2]
  show (if len2 (UInt8.ofNat Z.length) (UInt8.ofNat (Z.length / 256)) ≤ 1024 then (if (Z ++ r).length < len2 (UInt8.ofNat Z.length) (UInt8.ofNat (Z.length / 256)) then none else some (Ev.frame ((Z ++ r).take (len2 (UInt8.ofNat Z.length) (UInt8.ofNat (Z.length / 256)))), (Z ++ r).drop (len2 (UInt8.ofNat Z.length) (UInt8.ofNat (Z.length / 256))), 0)) else some (Ev.big, Z ++ r, len2 (UInt8.ofNat Z.length) (UInt8.ofNat (Z.length / 256)))) = _
  rw [len2_of h2, if_neg (by omega)]
theorem all_fr (n : Nat) (X r : List UInt8) (h : X.length ≤ 1024) : allM (n + 1) (frU X ++ r) 0 = .frame X :: allM n r 0 := by
  show (match stepM (frU X ++ r) 0 with | none => [] | some (e, l2, p2) => e :: allM n l2 p2) = _
  rw [step_fr X r h]
theorem all_big (n : Nat) (Z r : List UInt8) (h1 : 1024 < Z.length) (h2 : Z.length ≤ 65535) : allM (n + 1) (frU Z ++ r) 0 = .big :: allM n r 0 := by
  show (match stepM (frU Z ++ r) 0 with | none => [] | some (e, l2, p2) => e :: allM n l2 p2) = _
  rw [step_big Z r h1 h2]
  show Ev.big :: allM n (Z ++ r) Z.length = _
  have h := all_pass n (Z ++ r) Z.length []
  rw [List.append_nil, (pass_all Z r).1, (pass_all Z r).2, List.append_nil] at h
  rw [h]
theorem all_nil (n p : Nat) : allM n [] p = [] := by
  cases n with
  | zero => rfl
  | succ n =>
    show (match stepM [] p with | none => [] | some (e, l2, p2) => e :: allM n l2 p2) = _
    have : stepM [] p = none := by
      unfold stepM passM
      simp
    rw [this]
/-- a frame that is no ask that writes -/
def Rd1 (e : Ev) : Prop := ∀ X a, e = .frame X → getA X = .ok a → writK a.kind = false
set_option maxHeartbeats 1000000 in
theorem svDo_all {w : World} {sv b r t g s tb gr : Nat} {me ws : Value} {last : Int} {cf : CfgM} {cs : Nat → CV} (hS : SvAt w sv b r t g s tb gr me ws last cf cs) (hl : SvL sv b t g s tb) {i : Nat} (hi : i < 4) {l : List UInt8} {p : Nat} {es : List Ev} (hC : CnAt w (cs i) sv b l p (es.flatMap evB)) {Ab : Option Addr} {nb cb : Nat} {bs : List UInt8} (hb : RdB w Ab nb cb bs) (hpot : 25 * es.length + 25 * (l.length + nb) ≤ 800000) (hp : p ≤ 900000) (hl0 : 0 ≤ last) (hl1 : last + (l.length + nb) ≤ 900000) (N : Nat) (hN : l.length + nb ≤ N)
    (hrd : ∀ e ∈ allM N (l ++ bs) p, Rd1 e) :
    Calls Tryz.prog 10 #[.pointer (some ⟨sv, 0, none⟩), .agg (stepC 1 i 0 0 0 0 Ab nb cb)] w fun e w' => e = .returned (.bool true) ∧ ∃ l' p' v last', CnAt w' v sv b l' p' ((es ++ allM N (l ++ bs) p).flatMap evB) ∧ (∀ n x, l.length + nb + x.length ≤ n → allM n ((l ++ bs) ++ x) p = allM N (l ++ bs) p ++ allM n (l' ++ x) p') ∧ l'.length + 2 * (allM N (l ++ bs) p).length ≤ l.length + nb ∧ p' ≤ max p 65535 ∧ v.aw = (cs i).aw ∧ SvAt w' sv b r t g s tb gr me ws last' cf (upC cs i v) ∧ 0 ≤ last' ∧ last' ≤ last + (allM N (l ++ bs) p).length ∧ Turned (fun j => j = sv ∨ j = b) w w' := by
  have hln : (l ++ bs).length = l.length + nb := by rw [List.length_append, hb.len]
  refine (svDo_bytes hS hl hi hC hb (by rw [outs_len]; omega) hp hl0 hl1 (fun E l2 p2 X l3 p3 a h1 h2 h3 => hrd _ (Rn.mem N h1 h2 (by omega)) X a rfl h3)).mono ?_
  rintro e w' ⟨rfl, E, l2, p2, v, last', h1, h2, h3, h4, h5, h6, h7, h8⟩
  obtain ⟨q1, _⟩ := Rn.all N h1 h2 (by omega)
  subst q1
  have hless := h1.less
  have hpl := pass_le l2 p2
  refine ⟨rfl, passM l2 p2, leftM l2 p2, v, last', ?_, ?_, by omega, ?_, h4, h5, h6, h7, h8⟩
  · rw [List.flatMap_append]
    exact h3
  · intro n x hx
    exact Rn.more n h1 x (by omega)
  · unfold leftM
    omega
end Go.Proofs.YtkdlofgfkfhofaaGreatDoor

/-
  server: a connection that was fed bytes.
-/
namespace Go.Proofs.YtkdlofgfkfhofaaGreatDoor
open Go.RowKit Go.Maps

/-- of all the bytes that came, what was told and what is left -/
def Fed (L : List UInt8) (E : List Ev) (l : List UInt8) (p : Nat) : Prop := (∀ n x, L.length + x.length ≤ n → allM n (L ++ x) 0 = E ++ allM n (l ++ x) p) ∧ l.length + 2 * E.length ≤ L.length ∧ p ≤ 65535
theorem fed_nil : Fed [] [] [] 0 := ⟨fun _ _ _ => rfl, Nat.le_refl _, by omega⟩
set_option maxHeartbeats 1000000 in
theorem svDo_fed {w : World} {sv b r t g s tb gr : Nat} {me ws : Value} {last : Int} {cf : CfgM} {cs : Nat → CV} (hS : SvAt w sv b r t g s tb gr me ws last cf cs) (hl : SvL sv b t g s tb) {i : Nat} (hi : i < 4) {L l : List UInt8} {p : Nat} {E es : List Ev} (hC : CnAt w (cs i) sv b l p (es.flatMap evB)) (hF : Fed L E l p) {Ab : Option Addr} {nb cb : Nat} {bs : List UInt8} (hb : RdB w Ab nb cb bs) (N : Nat) (hN : L.length + nb ≤ N) (hpot : 25 * es.length + 25 * (L.length + nb) ≤ 800000) (hl0 : 0 ≤ last) (hl1 : last + (L.length + nb) ≤ 900000)
    (hrd : ∀ e ∈ allM N (L ++ bs) 0, Rd1 e) :
    Calls Tryz.prog 10 #[.pointer (some ⟨sv, 0, none⟩), .agg (stepC 1 i 0 0 0 0 Ab nb cb)] w fun e w' => e = .returned (.bool true) ∧ ∃ E' l' p' v last', allM N (L ++ bs) 0 = E ++ E' ∧ Fed (L ++ bs) (E ++ E') l' p' ∧ CnAt w' v sv b l' p' ((es ++ E').flatMap evB) ∧ v.aw = (cs i).aw ∧ SvAt w' sv b r t g s tb gr me ws last' cf (upC cs i v) ∧ 0 ≤ last' ∧ last' ≤ last + E'.length ∧ Turned (fun j => j = sv ∨ j = b) w w' := by
  obtain ⟨hF1, hF2, hF3⟩ := hF
  have hbl := hb.len
  have h0 := hF1 N bs (by omega)
  refine (svDo_all hS hl hi hC hb (by omega) (by omega) hl0 (by omega) N (by omega) (fun e he => hrd e (by rw [h0]; exact List.mem_append_right _ he))).mono ?_
  rintro e w' ⟨rfl, l', p', v, last', a1, a2, a3, a4, a5, a6, a7, a8, a9⟩
  refine ⟨rfl, _, l', p', v, last', h0, ⟨?_, ?_, ?_⟩, a1, a5, a6, a7, a8, a9⟩
  · intro n x hx
    rw [List.length_append] at hx
    rw [List.append_assoc, hF1 n (bs ++ x) (by rw [List.length_append]; omega), List.append_assoc, ← a2 n x (by omega), List.append_assoc]
  · rw [List.length_append, List.length_append]
    omega
  · omega
end Go.Proofs.YtkdlofgfkfhofaaGreatDoor

/-
  server: a connection in a law's hands.
-/
namespace Go.Proofs.YtkdlofgfkfhofaaGreatDoor
open Go.RowKit Go.Maps

theorem ev_ask {a : Ask} (h : rightA a = true) : evR (.frame (putA a)) = (a.corr, servE a.kind) := by
  show (match getA (putA a) with | .error k => k | .ok a => (a.corr, servE a.kind)) = _
  rw [getA_put h]
theorem rd_ask {a : Ask} (h : rightA a = true) (hw : writK a.kind = false) : Rd1 (.frame (putA a)) := by
  intro X a' h1 h2
  injection h1 with h1
  subst h1
  rw [getA_put h] at h2
  injection h2 with h2
  subst h2
  exact hw
theorem rdBig : Rd1 .big := fun X a h _ => by cases h
theorem all_frs : ∀ (Xs : List (List UInt8)) (r : List UInt8) (n : Nat), (∀ X ∈ Xs, X.length ≤ 1024) → allM (n + Xs.length) (Xs.flatMap frU ++ r) 0 = Xs.map .frame ++ allM n r 0
  | [], r, n, _ => rfl
  | X :: Xs, r, n, h => by
    rw [List.flatMap_cons, List.append_assoc, List.length_cons, ← Nat.add_assoc, all_fr _ X _ (h X List.mem_cons_self), all_frs Xs r n (fun Y hY => h Y (List.mem_cons_of_mem _ hY))]
    rfl
theorem Rn.ex : ∀ (n : Nat) (l : List UInt8) (p : Nat), l.length ≤ n → ∃ E l2 p2, Rn l p E l2 p2 ∧ stepM l2 p2 = none
  | n, l, p, hn => by
    cases h : stepM l p with
    | none => exact ⟨[], l, p, Rn.nil, h⟩
    | some x =>
      obtain ⟨e, l1, p1⟩ := x
      have hl := step_less h
      cases n with
      | zero => omega
      | succ n =>
        obtain ⟨E, l2, p2, h1, h2⟩ := Rn.ex n l1 p1 (by omega)
        exact ⟨[e] ++ E, l2, p2, Rn.trans (Rn.snoc Rn.nil h) h1, h2⟩
/-- what came first is told first -/
theorem all_pre (n : Nat) (l r : List UInt8) (p : Nat) (hn : l.length + r.length ≤ n) : ∃ E', allM n (l ++ r) p = allM n l p ++ E' := by
  obtain ⟨E, l2, p2, h1, h2⟩ := Rn.ex n l p (by omega)
  obtain ⟨h3, _⟩ := Rn.all n h1 h2 (by omega)
  rw [h3]
  exact ⟨_, Rn.more n h1 r hn⟩
/-- a connection that was fed the bytes L: so much was told, the first D of it taken out -/
structure FeedAt (N K : Nat) (w0 w : World) (sv b r t g s tb gr : Nat) (me : Value) (cf : CfgM) (cs : Nat → CV) (i : Nat) (L : List UInt8) (D : Nat) : Prop where
  at_ : ∃ v l p last, SvAt w sv b r t g s tb gr me (.slice none 0 0) last cf (upC cs i v) ∧ CnAt w v sv b l p (((allM N L 0).drop D).flatMap evB) ∧ Fed L (allM N L 0) l p ∧ 0 ≤ last ∧ last ≤ K + (allM N L 0).length ∧ v.aw = (cs i).aw
  tu : Turned (fun j => j = sv ∨ j = b) w0 w
theorem feed_nil {N : Nat} {w : World} {sv b r t g s tb gr : Nat} {me : Value} {cf : CfgM} (hS : SvAt w sv b r t g s tb gr me (.slice none 0 0) 0 cf zCs) (i : Nat) : FeedAt N 0 w w sv b r t g s tb gr me cf zCs i [] 0 := by
  refine ⟨⟨zC, [], 0, 0, ?_, ?_, ?_, Int.le_refl _, ?_, rfl⟩, Turned.refl _ _⟩
  · have : upC zCs i zC = zCs := upC_self zCs i
    rw [this]
    exact hS
  · rw [all_nil]
    exact ⟨⟨none, 0, 0, rfl, Rd.nil _ _, fun _ h => by cases h⟩, rfl, ⟨none, 0, 0, rfl, Rd.nil _ _, fun _ h => by cases h⟩⟩
  · rw [all_nil]
    exact fed_nil
  · omega
theorem FeedAt.ext {N K : Nat} {w0 w w' : World} {sv b r t g s tb gr : Nat} {me : Value} {cf : CfgM} {cs : Nat → CV} {i : Nat} {L : List UInt8} {D : Nat} (h : FeedAt N K w0 w sv b r t g s tb gr me cf cs i L D) (hb : Below w.heap.size w w') : FeedAt N K w0 w' sv b r t g s tb gr me cf cs i L D := by
  obtain ⟨⟨v, l, p, last, h1, h2, h3⟩, h4⟩ := h
  exact ⟨⟨v, l, p, last, h1.ext hb, h2.turned (Turned.of_below (P := fun _ => False) hb) (fun _ h => h.elim), h3⟩, h4.then_below hb⟩
set_option maxHeartbeats 1000000 in
theorem feed_do {N K : Nat} {w0 w : World} {sv b r t g s tb gr : Nat} {me : Value} {cf : CfgM} {cs : Nat → CV} {i : Nat} {L : List UInt8} {D : Nat} (h : FeedAt N K w0 w sv b r t g s tb gr me cf cs i L D) (hl : SvL sv b t g s tb) (hi : i < 4) {Ab : Option Addr} {nb cb : Nat} {bs : List UInt8} (hb : RdB w Ab nb cb bs) (hN : L.length + nb ≤ N) (hN2 : N ≤ 16000) (hK : K ≤ 100000) (hD : D ≤ (allM N L 0).length)
    (hrd : ∀ e ∈ allM N (L ++ bs) 0, Rd1 e) :
    Calls Tryz.prog 10 #[.pointer (some ⟨sv, 0, none⟩), .agg (stepC 1 i 0 0 0 0 Ab nb cb)] w fun e w' => e = .returned (.bool true) ∧ FeedAt N K w0 w' sv b r t g s tb gr me cf cs i (L ++ bs) D ∧ Turned (fun j => j = sv ∨ j = b) w w' := by
  obtain ⟨⟨v, l, p, last, hS, hC, hF, h0, h1, hv⟩, hT⟩ := h
  have hE2 := hF.2.1
  have hdl : ((allM N L 0).drop D).length ≤ (allM N L 0).length := by rw [List.length_drop]; omega
  have h := svDo_fed hS hl hi (by rw [upC_same]; exact hC) hF hb N hN (by omega) h0 (by omega) hrd
  refine h.mono ?_
  rintro e w' ⟨rfl, E', l', p', v', last', a0, a1, a2, a3, a4, a5, a6, a7⟩
  rw [upC_same] at a3
  rw [upC_up] at a4
  refine ⟨rfl, ⟨⟨v', l', p', last', a4, ?_, ?_, a5, ?_, a3.trans hv⟩, hT.trans a7 fun _ _ h => h⟩, a7⟩
  · rw [a0, List.drop_append_of_le_length hD]
    exact a2
  · rw [a0]
    exact a1
  · rw [a0, List.length_append]
    omega
set_option maxHeartbeats 1000000 in
theorem feed_one {N K : Nat} {w0 w : World} {sv b r t g s tb gr : Nat} {me : Value} {cf : CfgM} {cs : Nat → CV} {i : Nat} {L : List UInt8} {D : Nat} (h : FeedAt N K w0 w sv b r t g s tb gr me cf cs i L D) (hl : SvL sv b t g s tb) (hi : i < 4) (hN : L.length ≤ 60000) (m : Nat) (hm : ((allM N L 0).drop D).length = m) :
    Calls Tryz.prog 11 #[.pointer (some ⟨sv, 0, none⟩), .int .i64 i] w fun e w' => ∃ A c Ls, e = .returned (.slice A m c) ∧ RpL Ls ((allM N L 0).drop D) ∧ RdK w' 6 A m c (Ls.map RpR.cells) ∧ FeedAt N K w0 w' sv b r t g s tb gr me cf cs i L (allM N L 0).length ∧ Turned (fun j => j = sv) w w' ∧ (∀ ad, A = some ad → w.heap.size ≤ ad.block) := by
  obtain ⟨⟨v, l, p, last, hS, hC, hF, h0, h1, hv⟩, hT⟩ := h
  have hE2 := hF.2.1
  have hdl : ((allM N L 0).drop D).length ≤ (allM N L 0).length := by rw [List.length_drop]; omega
  have h := one_any hS hl hi (by rw [upC_same]; exact hC) (by omega)
  rw [hm] at h
  refine h.mono ?_
  rintro e w' ⟨A, c, Ls, v', rfl, a1, a2, a3, a4, a5, a6, a7⟩
  rw [upC_same] at a3
  rw [upC_up] at a4
  refine ⟨A, c, Ls, rfl, a1, a2, ⟨⟨v', l, p, last, a4, ?_, hF, h0, h1, a3.trans hv⟩, hT.trans a6 fun _ _ h => .inl h⟩, a6, a7⟩
  rw [List.drop_length]
  exact a5
theorem RdK.turned {w w' : World} {Q : Nat → Prop} {k : Nat} {A : Option Addr} {n c : Nat} {rows : List (List Value)} (h : RdK w k A n c rows) (ht : Turned Q w w') (hA : ∀ ad, A = some ad → ¬ Q ad.block) : RdK w' k A n c rows :=
  ⟨h.len, h.cap, h.big, fun i r hr => by
    obtain ⟨g, h1, h2, h3⟩ := h.cell i r hr
    refine ⟨g, h1, Nat.lt_of_lt_of_le h2 ht.size, fun j u hu => ?_⟩
    have h4 := ht.block g h2 (hA _ h1)
    have h5 := h3 j u hu
    unfold World.cell? at h5 ⊢
    simp only at h5 ⊢
    rw [h4]
    exact h5⟩
theorem feed_awaits {N K : Nat} {w0 w : World} {sv b r t g s tb gr : Nat} {me : Value} {cf : CfgM} {i : Nat} {L : List UInt8} {D : Nat} (h : FeedAt N K w0 w sv b r t g s tb gr me cf zCs i L D) (hi : i < 4) :
    Calls Tryz.prog 17 #[.pointer (some ⟨sv, 0, none⟩), .int .i64 i] w fun e w' => e = .returned (.int .i64 0) ∧ w' = w := by
  obtain ⟨⟨v, l, p, last, hS, _, _, _, _, hv⟩, _⟩ := h
  exact svAwaits_any hS.bk hi (by rw [upC_same]; exact hv)
/-- the k-th reply's number and error -/
theorem RpL.get {Ls : List RpR} {es : List Ev} (h : RpL Ls es) {w : World} {A : Option Addr} {n c : Nat} (hR : RdK w 6 A n c (Ls.map RpR.cells)) {k : Nat} {e : Ev} (he : es[k]? = some e) : ∃ g, A = some ⟨g, 0, none⟩ ∧ w.cell? ⟨g, k * 6, none⟩ = some (.int .i64 (evR e).1) ∧ w.cell? ⟨g, k * 6 + 1, none⟩ = some (.int .i64 (evR e).2) ∧ ∃ A' c', w.cell? ⟨g, k * 6 + 4, none⟩ = some (.slice A' 0 c') := by
  have h1 : (Ls.map (fun r => (r.co, r.er)))[k]? = (es.map evR)[k]? := by rw [show Ls.map (fun r => (r.co, r.er)) = es.map evR from h]
  rw [List.getElem?_map, List.getElem?_map, he] at h1
  obtain ⟨x, hx, h2⟩ := Option.map_eq_some_iff.1 h1
  obtain ⟨g, q1, _, q3⟩ := hR.cell k x.cells (by rw [List.getElem?_map, hx]; rfl)
  have hc : x.co = (evR e).1 := congrArg Prod.fst h2
  have he : x.er = (evR e).2 := congrArg Prod.snd h2
  refine ⟨g, q1, ?_, ?_, x.A, x.c, q3 4 _ rfl⟩
  · rw [← hc]
    exact q3 0 _ rfl
  · rw [← he]
    exact q3 1 _ rfl
end Go.Proofs.YtkdlofgfkfhofaaGreatDoor

/-
  append of a make to two bytes.
-/
namespace Go.Proofs.YtkdlofgfkfhofaaGreatDoor
open Go.RowKit Go.Maps

theorem zeroCells_eq (n : Nat) : Builtin.zeroCells (Value.int .u8 0).cells n = (List.replicate n (Value.int .u8 0)).toArray := by
  unfold Builtin.zeroCells
  apply Array.ext'
  simp [Value.cells, Nat.mod_one]
  apply List.ext_getElem
  · simp
  · intro i h1 h2
    simp
set_option maxHeartbeats 1000000 in
theorem append_zeros2 {w : World} {g B : Nat} {x y : UInt8} (hb : Bk w g 5 #[.int .u8 (w8 x), .int .u8 (w8 y)]) (hB : B ≤ w.heap.size) (n : Nat) (h0 : 1 ≤ n) (hn : n ≤ 100000) :
    ∃ c w', (apMake (.slice (some ⟨g, 0, none⟩) 2 2) n).run Tryz.prog w = .ok (.slice (some ⟨w.heap.size, 0, none⟩) (2 + n) c) w' ∧ OwnB w' B (.slice (some ⟨w.heap.size, 0, none⟩) (2 + n) c) ([x, y] ++ List.replicate n 0) ∧ Below w.heap.size w w' := by
  obtain ⟨ii, hi, hz, hs, hy⟩ := info_byte'
  have hge := grownCap_ge w (2 + n) 2 5
  have hle := grownCap_le_maxLen w (2 + n) 2 5 (by unfold maxLen; omega)
  have hcl : ∀ (j : Nat) (v : Value), [Value.int .u8 (w8 x), Value.int .u8 (w8 y)][j]? = some v → w.cell? ((⟨g, 0, none⟩ : Addr).add j) = some v := by
    intro j v hj
    have : (⟨g, 0, none⟩ : Addr).add j = ⟨g, j, none⟩ := by cases j <;> simp [Addr.add]
    rw [this, hb.cell]
    rw [← hj, List.getElem?_toArray]
  have hnc := nextslicecap_le (need := 2 + n) (old := 2) (by omega)
  refine ⟨grownCap w (2 + n) 2 5, w.drew.alloc (.cells ((#[.int .u8 (w8 x), .int .u8 (w8 y)] : Array Value) ++ Builtin.zeroCells (Value.int .u8 0).cells n ++ Builtin.zeroCells (Value.int .u8 0).cells (grownCap w (2 + n) 2 5 - (2 + n))) 5), ?_, ?_, (below_drew1 (Below.refl _ _)).alloc (Nat.le_refl _) _⟩
  · have hn' : n ≠ 0 := by omega
    have hw : IntKind.i64.wrap (n : Int) = n := by rw [IntKind.wrap_i64]; omega
    have h63' : ¬ (9223372036854775807 < ((2 + n : Nat) : Int)) := by omega
    have h48' : ¬ (281474976710656 < Builtin.nextslicecap (2 + n) 2 * ii.bytes) := by rw [hy]; omega
    have h48i : ¬ (281474976710656 < (n : Int) * (ii.bytes : Int)) := by rw [hy]; omega
    have hneg : ¬ ((n : Int) < 0) := by omega
    have hns : ¬ (n * ii.size = 0) := by rw [hs]; omega
    have hcap : ¬ (2 + n ≤ 2) := by omega
    unfold apMake
    have hfo := run_firstCells_some (P := Tryz.prog) (w := w.drew) 1 2 ⟨g, 0, none⟩ 2 2 [.int .u8 (w8 x), .int .u8 (w8 y)] rfl hcl
    simp [Builtin.append_, run_underlying Tryz.underlying26, run_underlying Tryz.underlying3, sizeOf, typeInfo, zeroValue, hi, hz, hs, asInt, asIntOf, hw, hneg, h48', h48i, Question.forced, hfo, newRow, grownCap, hcap, hn']
    intro h
    omega
  · have hsz : ((#[.int .u8 (w8 x), .int .u8 (w8 y)] : Array Value) ++ Builtin.zeroCells (Value.int .u8 0).cells n ++ Builtin.zeroCells (Value.int .u8 0).cells (grownCap w (2 + n) 2 5 - (2 + n))).size = grownCap w (2 + n) 2 5 * 1 := by
      rw [Array.size_append, Array.size_append, size_zeroCells, size_zeroCells]
      simp [Value.cells]
      omega
    refine ⟨?_, .inr ⟨w.heap.size, _, _, ?_, hB, heap_alloc_new w.drew _, ?_, hle, hsz, ?_⟩⟩
    · simp [bvs]
    · rw [show ([x, y] ++ List.replicate n (0 : UInt8)).length = 2 + n by simp; omega]
    · simp
      omega
    · rw [zeroCells_eq]
      have e : (bvs ([x, y] ++ List.replicate n 0)) = [Value.int .u8 (w8 x), Value.int .u8 (w8 y)] ++ List.replicate n (Value.int .u8 0) := by
        simp [bvs]
        exact ⟨rfl, rfl, .inr rfl⟩
      have e2 : ([x, y] ++ List.replicate n (0 : UInt8)).length = ([Value.int .u8 (w8 x), Value.int .u8 (w8 y)] ++ List.replicate n (Value.int .u8 0)).length := by simp
      rw [e, e2, Nat.mul_one, Array.toList_append, Array.toList_append]
      exact List.take_left' rfl
end Go.Proofs.YtkdlofgfkfhofaaGreatDoor
