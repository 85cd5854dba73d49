import Derived.Test.YtkdlofgfkfhofaaGreatDoorP06
import Derived.Test.YtkdlofgfkfhofaaGreatDoorP03
/-
  rack: Online; rows of ints.
-/
namespace Go.Proofs.YtkdlofgfkfhofaaGreatDoor
open Go.RowKit Go.Maps

/-- a slice of ints of the call's own, from block B on -/
def OwnI (w : World) (B : Nat) (v : Value) (l : List Int) : Prop := w.ownsRow B 3 1 v l.length (l.map (Value.int .i64))
theorem OwnI.turned {w w' : World} {B : Nat} {Q : Nat → Prop} {v : Value} {l : List Int} (h : OwnI w B v l) (ht : Turned Q w w') (hp : ∀ g, v.ownBlock = some g → ¬ Q g) : OwnI w' B v l := own_turned h ht hp
theorem OwnI.ext {w w' : World} {B : Nat} {v : Value} {l : List Int} (h : OwnI w B v l) (hb : Below w.heap.size w w') : OwnI w' B v l := h.turned (Q := fun _ => False) (Turned.of_below hb) (fun _ _ => id)
theorem OwnI.nil (w : World) (B : Nat) : OwnI w B (.slice none 0 0) [] := World.ownsRow_nil w B _ _
theorem OwnI.of {w : World} {B n : Nat} {v : Value} {l : List Int} {xs : List Value} (h : w.ownsRow B 3 1 v n xs) (hx : xs = l.map (Value.int .i64)) (hn : l.length = n) : OwnI w B v l := by
  subst hx hn
  exact h
theorem OwnI.more {w : World} {B B' : Nat} {v : Value} {l : List Int} (h : OwnI w B' v l) (hB : B ≤ B') : OwnI w B v l :=
  ⟨h.1, h.2.imp id fun ⟨g, cap, cur, h1, h2, h3⟩ => ⟨g, cap, cur, h1, Nat.le_trans hB h2, h3⟩⟩
theorem OwnI.own_lt {w : World} {B : Nat} {v : Value} {l : List Int} (h : OwnI w B v l) : ∀ k, v.ownBlock = some k → B ≤ k ∧ k < w.heap.size := fun k hk => World.ownsRow.lt h k hk
/-- as it is walked -/
theorem OwnI.open_ {w : World} {B : Nat} {v : Value} {l : List Int} (h : OwnI w B v l) : ∃ A c, v = .slice A l.length c ∧ ∀ k, (hk : k < l.length) → ∃ g, A = some ⟨g, 0, none⟩ ∧ B ≤ g ∧ g < w.heap.size ∧ w.cell? ⟨g, k, none⟩ = some (.int .i64 l[k]) := by
  rcases h.2 with ⟨h1, h2⟩ | ⟨g, cap, cur, h1, h2, h3, h4, h5, h6, h7⟩
  · refine ⟨none, 0, by rw [h1, h2], fun k hk => by omega⟩
  · refine ⟨_, cap, h1, fun k hk => ⟨g, rfl, h2, (Array.getElem?_eq_some_iff.1 h3).1, ?_⟩⟩
    have hb : Bk w g 3 cur := h3
    rw [hb.cell k]
    have h8 := congrArg (fun x => x[k]?) h7
    replace h8 : (List.take (l.length * 1) cur.toList)[k]? = (l.map (Value.int .i64))[k]? := h8
    rw [Nat.mul_one, List.getElem?_take, if_pos hk, List.getElem?_map, List.getElem?_eq_getElem hk] at h8
    rw [← Array.getElem?_toList, h8]
    rfl
theorem cell_new1 (w : World) (t : TypeId) (x : Value) : ∀ j u, [x][j]? = some u → (w.alloc (.cells #[x] t)).cell? ((⟨w.heap.size, 0, none⟩ : Addr).add j) = some u := fun j u hu => by
  cases j with
  | zero =>
    rw [Addr.add_none, cell_of_row _ _ _ _ _ _ (heap_alloc_new w _)]
    exact hu
  | succ j => cases hu
theorem one_i (z : Int) : ∀ u ∈ [Value.int .i64 z], u.oneCell' = true := by
  intro u hu
  rw [List.mem_singleton] at hu
  subst hu
  rfl
theorem info_int : (Tryz.prog.info? 3).map (fun i => (i.zero, i.size, i.bytes)) = some (some (.int .i64 0), 1, 8) := by kernel_rfl
/-- the disks below k that are online -/
def RackM.onl (M : RackM) (k : Nat) : List Int := ((List.range k).filter fun i => !(M.d i).dead).map fun (d : Nat) => (d : Int)
theorem RackM.onl_succ (M : RackM) (k : Nat) : M.onl (k + 1) = M.onl k ++ if (M.d k).dead = false then [(k : Int)] else [] := by
  unfold RackM.onl
  rw [List.range_succ, List.filter_append, List.map_append]
  congr 1
  cases h : (M.d k).dead <;> simp [h]
theorem RackM.onl_len (M : RackM) (k : Nat) : (M.onl k).length ≤ k := by
  unfold RackM.onl
  rw [List.length_map]
  refine Nat.le_trans (List.length_filter_le _ _) ?_
  rw [List.length_range]
  exact Nat.le_refl _
theorem RackM.up_eq {M : RackM} {k : Nat} (hk : k < M.n) : M.up (k : Int) = !(M.d k).dead := by
  unfold RackM.up
  simp [hk]
set_option maxRecDepth 100000 in
set_option maxHeartbeats 4000000 in
theorem rackOnline_any {o : Nat → Option Nat} {r : Nat} {M : RackM} {w : World} (h : RackAt w o r M) :
    Calls Tryz.prog 48 #[.pointer (some ⟨r, 0, none⟩)] w fun e w' => ∃ v, e = .returned v ∧ OwnI w' w.heap.size v (onlineI M) ∧ Below w.heap.size w w' := by
  have HH := Lib.hid h
  have hfew := h.ok.few
  obtain ⟨ii, hi0, hz0, hs0, hy0⟩ := info_parts info_int
  obtain ⟨lb, cap, C, d, hp⟩ := h
  have c0 : w.cell? ⟨r, 0, none⟩ = some (.slice (some ⟨lb, 0, none⟩) M.n cap) := hp.bk.cell 0
  have HI := Lib.hid hi0
  have HZ := Lib.hid hz0
  have HSz := Lib.hid hs0
  have HY := Lib.hid hy0
  clear hp hi0 hz0 hs0 hy0
  go_enter Tryz.func48, Tryz.ntmps48
  go_wp2_with fail
  go_loopw [3, 10] (fun v i wr => ∃ k : Nat, k ≤ M.n ∧ i = .int .i64 k ∧ Hid (OwnI wr w.heap.size v (M.onl k)) ∧ Hid (Below w.heap.size w wr)) (fun _ i _ => M.n - (intOf i).toNat)
  case atStart => exact ⟨0, Nat.zero_le _, rfl, OwnI.nil _ _, Below.refl _ _⟩
  case round =>
    obtain ⟨k, hk, rfl, hv, hB⟩ := hrel
    by_cases hlt : k < M.n
    · have hi : (k : Int) < M.n := by omega
      have HU := Lib.hid (rackUp_any (HH.out.ext hB.out) (k : Int) _ (RackM.up_eq hlt))
      obtain ⟨A, c, hA, _⟩ := hv.out.open_
      have hlk := M.onl_len k
      have hsucc := M.onl_succ k
      obtain ⟨q, hq⟩ : ∃ q, (M.onl k).length = q := ⟨_, rfl⟩
      rw [hq] at hA hlk
      subst hA
      have hown : wr.ownsRow w.heap.size 3 1 (.slice A q c) q ((M.onl k).map (Value.int .i64)) := by
        have h := hv.out
        unfold OwnI at h
        rw [hq] at h
        exact h
      have HOwn := Lib.hid hown
      have HSc := Lib.hid hsucc
      have HQ := Lib.hid hq
      clear hown hsucc hq
      cases hdd : (M.d k).dead with
      | true =>
        rw [hdd] at HU HSc
        have HN : Hid (OwnI wr w.heap.size (.slice A q c) (M.onl (k + 1))) := by
          have h := HSc.out
          rw [if_neg (by decide), List.append_nil] at h
          rw [h]
          exact hv
        clear HSc hdd
        go_wp2_with (first | (go_at_call 89; go_loud ((with_reducible refine HU.out.mono ?_); rintro er w4 ⟨rfl, rfl⟩)) | fail)
        exact ⟨⟨k + 1, by omega, by go_num, HN, hB⟩, by simp [intOf]; omega⟩
      | false =>
        rw [hdd] at HU HSc
        have hbn := below_new wr (.cells #[.int .i64 (k : Int)] 3)
        have HBn := Lib.hid hbn
        have hown2 := own_turned (P := fun _ => False) HOwn.out (Turned.of_below hbn) (fun _ _ => id)
        have HOwn2 := Lib.hid hown2
        clear hbn hown2 hdd
        go_wp2_with (first | (go_at_call 89; go_loud ((with_reducible refine HU.out.mono ?_); rintro er w4 ⟨rfl, rfl⟩)) | (at_builtin; go_loud (refine wpList_append_gen rfl (.tmp 16) (.tmp 18) 45 rfl 3 ii _ 1 8 Tryz.underlying45 HI.out HZ.out HSz.out HY.out rfl (by omega) w.heap.size w _ q ((M.onl k).map (Value.int .i64)) rfl HOwn2.out ⟨w4.heap.size, 0, none⟩ 1 1 [.int .i64 (k : Int)] rfl rfl (cell_new1 _ _ _) (one_i _) (by unfold maxLen; omega) (by omega) (hB.out.trans (below_le hB.out.size HBn.out)) (Nat.le_trans hB.out.size HBn.out.size) ?_); intro A5 c5 w5 ho5 hg5 hob5 hb5 hs5) | fail)
        have HN : Hid (OwnI w5 w.heap.size (.slice A5 (q + 1) c5) (M.onl (k + 1))) := by
          have h := HSc.out
          rw [if_pos trivial] at h
          refine OwnI.of ho5.out ?_ ?_
          · rw [h, List.map_append]
            rfl
          · rw [h, List.length_append, HQ.out]
            rfl
        exact ⟨⟨k + 1, by omega, by go_num, HN, hb5⟩, by simp [intOf]; omega⟩
    · have hk1 : k = M.n := by omega
      subst hk1
      have hi : ¬ (M.n : Int) < M.n := by omega
      go_wp2_with fail
      go_ret
      exact ⟨_, rfl, hv.out, hB.out⟩
end Go.Proofs.YtkdlofgfkfhofaaGreatDoor

/-
  rack: Read, Get.
-/
namespace Go.Proofs.YtkdlofgfkfhofaaGreatDoor
open Go.RowKit Go.Maps

set_option maxRecDepth 100000 in
set_option maxHeartbeats 4000000 in
theorem rackRead_any {o : Nat → Option Nat} {r : Nat} {M : RackM} {w : World} (h : RackAt w o r M) (i s : Int) :
    Calls Tryz.prog 218 #[.pointer (some ⟨r, 0, none⟩), .int .i64 i, .int .i64 s] w fun e w' =>
      (∃ k, M.read i s = .error k ∧ k ≠ 0 ∧ ReadR 2 w k [] e w') ∨ ∃ l, M.read i s = .ok l ∧ ReadR 2 w 0 l e w' := by
  have HH := Lib.hid (rackHas_any h i _ rfl)
  obtain ⟨R, hM⟩ : ∃ R, M.read i s = R := ⟨_, rfl⟩
  rw [hM]
  unfold RackM.read at hM
  by_cases hin : 0 ≤ i ∧ i < M.n
  · rw [if_neg (not_not_intro hin)] at hM
    rw [decide_eq_true hin] at HH
    by_cases hoff : M.off = true
    · rw [if_pos hoff] at hM
      subst hM
      obtain ⟨lb, cap, C, d, hp⟩ := h
      have c1 : w.cell? ⟨r, 1, none⟩ = some (.bool M.off) := hp.bk.cell 1
      rw [hoff] at c1
      have HW : Hid (∀ w, Calls Tryz.prog 39 #[.string ⟨#[114, 97, 99, 107, 46, 82, 101, 97, 100]⟩, .int .i64 i, .iface 40 (.int .i64 5)] w fun e w' => ∃ v', e = .returned v' ∧ ErrR (0 + 1) v' 5 ∧ w' = w) := fun w => wrapR (ErrR.no (by decide) 0) _ i w
      clear hp hin hoff
      go_enter Tryz.func218, Tryz.ntmps218
      go_wp2_with (first | (go_at_call 73; (with_reducible refine HH.out.mono ?_); rintro er w4 ⟨rfl, rfl⟩) | (go_at_call 39; go_loud ((with_reducible refine (HW.out _).mono ?_); rintro er w5 ⟨v5, rfl, he5, rfl⟩; have HE := Lib.hid he5; clear he5)) | fail)
      go_ret2
      exact .inl ⟨5, rfl, by decide, _, _, rfl, HE.out.more (by decide), fun h => absurd h (by decide), fun _ => rfl, Below.refl _ _⟩
    · rw [if_neg hoff] at hM
      have hoff : M.off = false := by simpa using hoff
      obtain ⟨j, rfl⟩ := Int.eq_ofNat_of_zero_le hin.1
      rw [Int.toNat_natCast] at hM
      have hj : j < M.n := by omega
      obtain ⟨lb, cap, C, d, hp⟩ := h
      have c0 : w.cell? ⟨r, 0, none⟩ = some (.slice (some ⟨lb, 0, none⟩) M.n cap) := hp.bk.cell 0
      have c1 : w.cell? ⟨r, 1, none⟩ = some (.bool M.off) := hp.bk.cell 1
      rw [hoff] at c1
      have c2 : w.cell? ⟨lb, j, none⟩ = some (.pointer (some ⟨d j, 0, none⟩)) := (hp.row.cell j).trans (hp.at_ j hj).1
      have HD := Lib.hid (dskRead_any (hp.at_ j hj).2 s)
      have hi : (j : Int) < M.n := by omega
      have hbad : (∃ k, R = .error k ∧ k ≠ 0 ∧ (M.d j).bad s false = k) ∨ (∃ l, R = .ok l ∧ (M.d j).bad s false = 0 ∧ (M.d j).read s.toNat = l) := by
        rw [← hM]
        have hs : (M.d j).n = M.sectors := hp.ok.same j hj
        unfold DskM.bad
        by_cases h1 : (M.d j).dead = true
        · rw [if_pos h1, if_pos h1]
          exact .inl ⟨5, rfl, by decide, rfl⟩
        · rw [if_neg h1, if_neg h1]
          by_cases h2 : s < 0 ∨ (M.sectors : Int) ≤ s
          · rw [if_pos h2, if_pos (by rw [hs]; exact .inr h2)]
            exact .inl ⟨1, rfl, by decide, rfl⟩
          · rw [if_neg h2, if_neg (by rw [hs]; simpa using h2)]
            exact .inr ⟨_, rfl, rfl, rfl⟩
      have HBad := Lib.hid hbad
      clear hp hin hM hoff hbad
      go_enter Tryz.func218, Tryz.ntmps218
      go_wp2_with (first | (go_at_call 73; (with_reducible refine HH.out.mono ?_); rintro er w4 ⟨rfl, rfl⟩) | (go_at_call 257; go_loud ((with_reducible refine HD.out.mono ?_); rintro er w5 ⟨v5, u5, rfl, he5, h5, h5', hb5⟩; have HE5 := Lib.hid he5; have H5 := Lib.hid h5; have H5' := Lib.hid h5'; have HB5 := Lib.hid hb5; clear he5 h5 h5' hb5)) | (go_at_call 39; go_loud ((with_reducible refine (wrapR HE5.out _ _ _).mono ?_); rintro er w6 ⟨v6, rfl, he6, rfl⟩; have HE6 := Lib.hid he6; clear he6)) | fail)
      go_ret2
      rcases HBad.out with ⟨k, e1, e2, e3⟩ | ⟨l, e1, e3, e4⟩
      · exact Or.inl ⟨k, e1, e2, _, _, rfl, by rw [← e3]; exact HE6.out, fun h => absurd h e2, fun _ => H5'.out (by rw [e3]; exact e2), HB5.out⟩
      · refine .inr ⟨l, e1, _, _, rfl, by have h := HE6.out; rw [e3] at h; exact h, fun _ => ?_, fun h => absurd rfl h, HB5.out⟩
        rw [← e4]
        exact H5.out e3
  · rw [if_pos hin] at hM
    subst hM
    rw [decide_eq_false hin] at HH
    have HW : Hid (∀ w, Calls Tryz.prog 39 #[.string ⟨#[114, 97, 99, 107, 46, 82, 101, 97, 100]⟩, .int .i64 i, .iface 40 (.int .i64 1)] w fun e w' => ∃ v', e = .returned v' ∧ ErrR (0 + 1) v' 1 ∧ w' = w) := fun w => wrapR (ErrR.no (by decide) 0) _ i w
    clear hin h
    go_enter Tryz.func218, Tryz.ntmps218
    go_wp2_with (first | (go_at_call 73; (with_reducible refine HH.out.mono ?_); rintro er w4 ⟨rfl, rfl⟩) | (go_at_call 39; go_loud ((with_reducible refine (HW.out _).mono ?_); rintro er w5 ⟨v5, rfl, he5, rfl⟩; have HE := Lib.hid he5; clear he5)) | fail)
    go_ret2
    exact .inl ⟨1, rfl, by decide, _, _, rfl, HE.out.more (by decide), fun h => absurd h (by decide), fun _ => rfl, Below.refl _ _⟩
end Go.Proofs.YtkdlofgfkfhofaaGreatDoor

/-
  rack: Get.
-/
namespace Go.Proofs.YtkdlofgfkfhofaaGreatDoor
open Go.RowKit Go.Maps

attribute [local go_sem ↓] ldFr_eq stFr_eq bdF_eq
set_option maxRecDepth 100000 in
set_option maxHeartbeats 4000000 in
theorem rackGet_any {o : Nat → Option Nat} {r : Nat} {M : RackM} {w : World} (h : RackAt w o r M) (i s kind slot stripe : Int) :
    Calls Tryz.prog 178 #[.pointer (some ⟨r, 0, none⟩), .int .i64 i, .int .i64 s, .int .i64 kind, .int .i64 slot, .int .i64 stripe] w fun e w' =>
      e = .returned (.tuple #[.agg ((M.get i s kind slot stripe).getD zeroF).cells, .bool (M.get i s kind slot stripe).isSome]) ∧ Below w.heap.size w w' := by
  have HR := Lib.hid (rackRead_any (h.ext (below_new w (.cells zeroF.cells 273))) i s)
  obtain ⟨R, hM⟩ : ∃ R, M.get i s kind slot stripe = R := ⟨_, rfl⟩
  rw [hM]
  unfold RackM.get at hM
  have hz := zero_frm
  have hbd := bdF_none
  have HM := Lib.hid hM
  have HB0 := Lib.hid (below_new w (.cells zeroF.cells 273))
  have HK0 := Lib.hid (Bk.made w 273 zeroF.cells)
  have hsz : w.heap.size < (w.alloc (.cells zeroF.cells 273)).heap.size := by simp
  clear hM
  go_enter Tryz.func178, Tryz.ntmps178
  go_wp2_with fail
  generalize w.alloc (.cells zeroF.cells 273) = W at HR HB0 HK0 hsz ⊢
  with_reducible refine HR.out.mono ?_
  rintro er w1 (⟨k, e1, hk, v, u, rfl, he, _, hv, hb1⟩ | ⟨l, e1, v, u, rfl, he, ho, _, hb1⟩)
  · obtain rfl := hv hk
    obtain ⟨ty, x, rfl⟩ := he.iface hk
    have hst := stF_bk w1 w.heap.size zeroF zeroF (HK0.out.ext hb1) blank_len blank_len
    have hB := HB0.out.trans (below_le HB0.out.size hb1)
    go_wp2_with fail
    refine bodyPost_ret (res_frm rfl _ _ w.heap.size zeroF rfl (Bk.rowF (HK0.out.ext hb1) _) blank_len) rfl ⟨?_, hB.grown (grown_rowF _ _ _) hB.size (fun k hk => by injection hk with hk; omega)⟩
    have e : R = none := by
      rw [← HM.out, e1]
    rw [e]
    rfl
  · obtain rfl := he.of_nil
    replace ho := ho rfl
    obtain ⟨A, c, rfl, hr⟩ := ho.reads
    have HG := Lib.hid (get_any A l.length c l w1 hr)
    have HB1 := Lib.hid (HB0.out.trans (below_le HB0.out.size hb1))
    have HK1 := Lib.hid (HK0.out.ext hb1)
    clear ho hr he hb1
    go_wp2_with fail
    with_reducible refine HG.out.mono ?_
    rintro er w2 ⟨rfl, hb2⟩
    have hgl := gotF_len l
    have HB2 := Lib.hid (HB1.out.trans (below_le HB1.out.size hb2))
    have HK2 := Lib.hid (HK1.out.ext hb2)
    clear hb2
    obtain ⟨F, hF⟩ : ∃ F, gotF l = F := ⟨_, rfl⟩
    obtain ⟨G, hG⟩ : ∃ G, got l = G := ⟨_, rfl⟩
    rw [hF] at hgl
    rw [hF, hG]
    have HF := Lib.hid hF
    have HGt := Lib.hid hG
    have hs1 := stFr_new w2 zeroF F blank_len hgl
    have hbk := Bk.made w2 273 F.cells
    have hb3 := below_new w2 (.cells F.cells 273)
    have k0 : (w2.alloc (.cells F.cells 273)).cell? ⟨w2.heap.size, 0, none⟩ = some (.int .i64 F.kind) := (hbk.cell 0).trans F.c0
    have k1 : (w2.alloc (.cells F.cells 273)).cell? ⟨w2.heap.size, 1, none⟩ = some (.int .i64 F.slot) := (hbk.cell 1).trans F.c1
    have k2 : (w2.alloc (.cells F.cells 273)).cell? ⟨w2.heap.size, 2, none⟩ = some (.int .i64 F.stripe) := (hbk.cell 2).trans F.c2
    have hld := ldFr_bk hbk hgl
    have HB3 := Lib.hid (HB2.out.trans (below_le HB2.out.size hb3))
    have HK3 := Lib.hid (HK2.out.ext hb3)
    have hz3 := stF_bk _ w.heap.size zeroF zeroF HK3.out blank_len blank_len
    have hf3 := stF_bk _ w.heap.size zeroF F HK3.out blank_len hgl
    clear hbk hb3 hF hG
    have hcase : (G = false ∧ R = none) ∨ (G = true ∧ (F.kind != kind) = true ∧ R = none) ∨ (G = true ∧ (F.kind != kind) = false ∧ (F.slot != slot) = true ∧ R = none) ∨
        (G = true ∧ (F.kind != kind) = false ∧ (F.slot != slot) = false ∧ (0 ≤ stripe ∧ (F.stripe != stripe) = true) ∧ R = none) ∨
        (G = true ∧ (F.kind != kind) = false ∧ (F.slot != slot) = false ∧ stripe < 0 ∧ R = some F) ∨
        (G = true ∧ (F.kind != kind) = false ∧ (F.slot != slot) = false ∧ (0 ≤ stripe ∧ (F.stripe != stripe) = false) ∧ R = some F) := by
      have hm := HM.out
      rw [e1] at hm
      dsimp only at hm
      have hg := HGt.out
      have hf := HF.out
      cases G with
      | false =>
        refine .inl ⟨rfl, ?_⟩
        rw [← hm, if_neg (by rw [hg]; simp)]
      | true =>
        rw [gotF_yes hg] at hf
        rw [hf, hg] at hm
        refine .inr ?_
        by_cases h1 : F.kind = kind
        · have h1' : (F.kind != kind) = false := by simp [h1]
          by_cases h2 : F.slot = slot
          · have h2' : (F.slot != slot) = false := by simp [h2]
            by_cases h3 : stripe < 0
            · refine .inr (.inr (.inr (.inl ⟨rfl, h1', h2', h3, ?_⟩)))
              rw [← hm, if_pos ⟨rfl, h1, h2, .inl h3⟩]
            · by_cases h4 : F.stripe = stripe
              · refine .inr (.inr (.inr (.inr ⟨rfl, h1', h2', ⟨by omega, by simp [h4]⟩, ?_⟩)))
                rw [← hm, if_pos ⟨rfl, h1, h2, .inr h4⟩]
              · refine .inr (.inr (.inl ⟨rfl, h1', h2', ⟨by omega, by simp [h4]⟩, ?_⟩))
                rw [← hm, if_neg (fun h => h.2.2.2.elim h3 h4)]
          · refine .inr (.inl ⟨rfl, h1', by simp [h2], ?_⟩)
            rw [← hm, if_neg (fun h => h2 h.2.2.1)]
        · refine .inl ⟨rfl, by simp [h1], ?_⟩
          rw [← hm, if_neg (fun h => h1 h.2.1)]
    rcases hcase with ⟨rfl, rfl⟩ | ⟨rfl, a1, rfl⟩ | ⟨rfl, a1, a2, rfl⟩ | ⟨rfl, a1, a2, ⟨a3, a4⟩, rfl⟩ | ⟨rfl, a1, a2, a3, rfl⟩ | ⟨rfl, a1, a2, ⟨a3, a4⟩, rfl⟩
    all_goals go_wp2_with fail
    all_goals first
      | exact bodyPost_ret (res_frm rfl _ _ w.heap.size zeroF rfl (Bk.rowF HK3.out _) blank_len) rfl ⟨rfl, HB3.out.grown (grown_rowF _ _ _) HB3.out.size (fun k hk => by injection hk with hk; omega)⟩
      | exact bodyPost_ret (res_frm rfl _ _ w.heap.size F rfl (Bk.rowF HK3.out _) hgl) rfl ⟨rfl, HB3.out.grown (grown_rowF _ _ _) HB3.out.size (fun k hk => by injection hk with hk; omega)⟩
end Go.Proofs.YtkdlofgfkfhofaaGreatDoor

/-
  super: within, Right, Sectors, Fits, block.
-/
namespace Go.Proofs.YtkdlofgfkfhofaaGreatDoor
open Go.RowKit Go.Maps

/-- the value of a configuration -/
def CfgM.val (c : CfgM) : Value := .agg #[.int .i64 c.id, .int .i64 c.k, .int .i64 c.n, .int .i64 c.stripes, .int .i64 c.slots]
def CfgM.cells (c : CfgM) : Array Value := #[.int .i64 c.id, .int .i64 c.k, .int .i64 c.n, .int .i64 c.stripes, .int .i64 c.slots]
/-- what a right configuration is -/
structure CfgM.In (c : CfgM) : Prop where
  id1 : 1 ≤ c.id
  id2 : c.id ≤ 2147483647
  n1 : 1 ≤ c.n
  n2 : c.n ≤ 8
  k1 : 1 ≤ c.k
  k2 : c.k ≤ c.n
  s1 : 1 ≤ c.stripes
  s2 : c.stripes ≤ 64
  l1 : 1 ≤ c.slots
  l2 : c.slots ≤ 4
theorem CfgM.right_in {c : CfgM} (h : c.right = true) : c.In := by
  simp only [CfgM.right, inB, Bool.and_eq_true, decide_eq_true_eq] at h
  obtain ⟨⟨a1, a2⟩, ⟨b1, b2⟩, ⟨c1, c2⟩, ⟨d1, d2⟩, e1, e2⟩ := h
  exact ⟨a1, a2, b1, b2, c1, c2, d1, d2, e1, e2⟩
set_option maxRecDepth 100000 in
theorem swithin_yes (n lo hi : Int) (w : World) (h1 : lo ≤ n) (h2 : n ≤ hi) : Calls Tryz.prog 139 #[.int .i64 n, .int .i64 lo, .int .i64 hi] w fun e w' => e = .returned (.bool true) ∧ w' = w := by
  go_enter Tryz.func139, Tryz.ntmps139
  go_wp2
  go_ret
  exact ⟨rfl, rfl⟩
set_option maxRecDepth 100000 in
set_option maxHeartbeats 1000000 in
theorem superRight_yes {c : CfgM} (h : c.right = true) (w : World) : Calls Tryz.prog 91 #[.agg #[.int .i64 c.id, .int .i64 c.k, .int .i64 c.n, .int .i64 c.stripes, .int .i64 c.slots]] w fun e w' => e = .returned (.bool true) ∧ Below w.heap.size w w' := by
  have hi := CfgM.right_in h
  have hk := Bk.made w 25 #[.int .i64 c.id, .int .i64 c.k, .int .i64 c.n, .int .i64 c.stripes, .int .i64 c.slots]
  have hb := below_new w (.cells #[.int .i64 c.id, .int .i64 c.k, .int .i64 c.n, .int .i64 c.stripes, .int .i64 c.slots] 25)
  go_enter Tryz.func91, Tryz.ntmps91
  go_wp2_with (first | (go_at_call 139; go_loud ((with_reducible refine (swithin_yes _ _ _ _ (by first | exact hi.id1 | exact hi.n1 | exact hi.k1 | exact hi.s1 | exact hi.l1) (by first | exact hi.id2 | exact hi.n2 | exact hi.k2 | exact hi.s2 | exact hi.l2)).mono ?_); rintro er w4 ⟨rfl, rfl⟩)) | fail)
  go_ret
  exact ⟨rfl, hb⟩
theorem prod_in {c : CfgM} (h : c.In) : 1 ≤ c.slots * c.k ∧ c.slots * c.k ≤ 32 := by
  have h1 := h.l1
  have h2 := h.l2
  have h3 := h.k1
  have h4 : c.k ≤ 8 := Int.le_trans h.k2 h.n2
  constructor
  · have := Int.mul_le_mul h1 h3 (by omega) (by omega)
    omega
  · have := Int.mul_le_mul h2 h4 (by omega) (by omega)
    omega
set_option maxRecDepth 100000 in
set_option maxHeartbeats 1000000 in
theorem superSectors_any {c : CfgM} (h : c.In) (w : World) : Calls Tryz.prog 93 #[.agg #[.int .i64 c.id, .int .i64 c.k, .int .i64 c.n, .int .i64 c.stripes, .int .i64 c.slots]] w fun e w' => e = .returned (.int .i64 c.sectors) ∧ Below w.heap.size w w' := by
  have hk := Bk.made w 25 #[.int .i64 c.id, .int .i64 c.k, .int .i64 c.n, .int .i64 c.stripes, .int .i64 c.slots]
  have hb := below_new w (.cells #[.int .i64 c.id, .int .i64 c.k, .int .i64 c.n, .int .i64 c.stripes, .int .i64 c.slots] 25)
  obtain ⟨p1, p2⟩ := prod_in h
  have s1 := h.s1
  have s2 := h.s2
  obtain ⟨q, hq⟩ : ∃ q, q = c.sectors := ⟨_, rfl⟩
  have hq2 : (1 : Int) + c.slots * c.k + c.stripes = q := by rw [hq]; rfl
  rw [← hq]
  clear hq
  go_enter Tryz.func93, Tryz.ntmps93
  go_wp2_with fail
  go_ret
  exact ⟨rfl, hb⟩
def ldCf (v : Value) : Sem Value := Instr.loadAt 25 v
theorem ldCf_eq (v : Value) : Instr.loadAt 25 v = ldCf v := rfl
theorem size_cfg : (Tryz.prog.info? 25).map (·.size) = some 5 := by kernel_rfl
theorem ldCf_bk {w : World} {g : Nat} {a b c d e : Int} (h : Bk w g 25 #[.int .i64 a, .int .i64 b, .int .i64 c, .int .i64 d, .int .i64 e]) : (ldCf (.pointer (some ⟨g, 0, none⟩))).run Tryz.prog w = .ok (.agg #[.int .i64 a, .int .i64 b, .int .i64 c, .int .i64 d, .int .i64 e]) w := by
  unfold ldCf
  simp only [Instr.loadAt, Instr.sureAddr, Sem.run_bind, Sem.run_pure, Result.andThen_ok, run_loadVar_row w g _ _ _ (0, 0) _ h Tryz.underlying25 rfl size_cfg]
attribute [local go_sem ↓] ldCf_eq
/-- it fits a rack -/
theorem CfgM.fits_in {c : CfgM} {M : RackM} (h : c.fits M = true) : c.right = true ∧ c.n = M.n ∧ c.sectors ≤ M.sectors := by
  simp only [CfgM.fits, Bool.and_eq_true, decide_eq_true_eq] at h
  exact ⟨h.1, h.2.1, h.2.2⟩
set_option maxRecDepth 100000 in
set_option maxHeartbeats 2000000 in
theorem superFits_yes {o : Nat → Option Nat} {r : Nat} {M : RackM} {w : World} (hR : RackAt w o r M) {c : CfgM} (h : c.fits M = true) :
    Calls Tryz.prog 51 #[.pointer (some ⟨r, 0, none⟩), .agg #[.int .i64 c.id, .int .i64 c.k, .int .i64 c.n, .int .i64 c.stripes, .int .i64 c.slots]] w fun e w' => e = .returned (.bool true) ∧ Below w.heap.size w w' := by
  obtain ⟨h1, h2, h3⟩ := CfgM.fits_in h
  have hk := Bk.made w 25 #[.int .i64 c.id, .int .i64 c.k, .int .i64 c.n, .int .i64 c.stripes, .int .i64 c.slots]
  have hb := below_new w (.cells #[.int .i64 c.id, .int .i64 c.k, .int .i64 c.n, .int .i64 c.stripes, .int .i64 c.slots] 25)
  have q1 : (c.n == (M.n : Int)) = true := by rw [h2]; simp
  have q2 : decide (c.sectors ≤ (M.sectors : Int)) = true := decide_eq_true h3
  clear h2 h3 h
  go_enter Tryz.func51, Tryz.ntmps51
  go_wp2_with fail
  have hR1 := hR.ext hb
  generalize w.alloc (.cells #[.int .i64 c.id, .int .i64 c.k, .int .i64 c.n, .int .i64 c.stripes, .int .i64 c.slots] 25) = W at hk hb hR1 ⊢
  have hld : ∀ t : Ext W, (ldCf (.pointer (some ⟨w.heap.size, 0, none⟩))).run Tryz.prog t.w = .ok (.agg #[.int .i64 c.id, .int .i64 c.k, .int .i64 c.n, .int .i64 c.stripes, .int .i64 c.slots]) t.w := fun t => ldCf_bk (hk.ext t.below)
  have h2c : ∀ t : Ext W, t.w.cell? ⟨w.heap.size, 2, none⟩ = some (.int .i64 c.n) := fun t => (hk.ext t.below).cell 2
  have hRt := Lib.hid (fun t : Ext W => ext_of (superRight_yes h1 t.w))
  have hSe := Lib.hid (fun t : Ext W => ext_of (superSectors_any (CfgM.right_in h1) t.w))
  have hN := Lib.hid (fun t : Ext W => ext_of_same ((rackN_any (hR1.ext t.below)).mono fun _ _ h => ⟨h.1, h.2.symm⟩))
  have hS := Lib.hid (fun t : Ext W => ext_of_same ((rackSectors_any (hR1.ext t.below)).mono fun _ _ h => ⟨h.1, h.2.symm⟩))
  have HB := Lib.hid hb
  clear hk hb hR1 h1
  refine wp_region_ext (by kernel_rfl) (by kernel_rfl) ?_
  repeat (go_big_quiet_step (first | (go_at_call 91; with_reducible exact hRt.out _) | (go_at_call 93; with_reducible exact hSe.out _) | (go_at_call 92; with_reducible exact hN.out _) | (go_at_call 94; with_reducible exact hS.out _)))
  refine wpQuiet_nil ?_
  intro _ hw'
  obtain ⟨t, hw''⟩ := hw'
  subst hw''
  go_wp2
  go_ret
  exact ⟨rfl, HB.out.trans (below_le HB.out.size t.below)⟩
end Go.Proofs.YtkdlofgfkfhofaaGreatDoor

/-
  super: block.
-/
namespace Go.Proofs.YtkdlofgfkfhofaaGreatDoor
open Go.RowKit Go.Maps

theorem frm_put (a b c d : Int) (D : List UInt8) (j : Nat) (x : UInt8) : (Frm.cells ⟨a, b, c, d, D⟩).setIfInBounds (4 + j) (.int .u8 (w8 x)) = Frm.cells ⟨a, b, c, d, D.set j x⟩ := by
  unfold Frm.cells
  rw [List.setIfInBounds_toArray]
  congr 1
  rw [show 4 + j = j + 4 by omega]
  show _ :: _ :: _ :: _ :: (bvs D).set j _ = _ :: _ :: _ :: _ :: bvs (D.set j x)
  unfold bvs
  rw [List.map_set]
  rfl
theorem frm_get {a b c d : Int} {D : List UInt8} {j : Nat} (h : j < D.length) : (Frm.cells ⟨a, b, c, d, D⟩)[4 + j]? = some (.int .u8 (w8 D[j])) := by
  unfold Frm.cells
  rw [List.getElem?_toArray, show 4 + j = j + 4 by omega]
  show (bvs D)[j]? = _
  rw [bvs_get D j h]
  rfl
theorem w8_ofN (x : Nat) (h : x < 256) : w8 (UInt8.ofNat x) = (x : Int) := by
  unfold w8
  rw [UInt8.toNat_ofNat']
  omega
/-- a configuration's small numbers as bytes -/
def cfgL (c : CfgM) : List UInt8 := [UInt8.ofNat c.k.toNat, UInt8.ofNat c.n.toNat, UInt8.ofNat c.stripes.toNat, UInt8.ofNat c.slots.toNat]
theorem cfgL_get {c : CfgM} (h : c.In) {j : Nat} (hj : j < 4) : ∃ z : Int, (#[Value.int .i64 c.k, .int .i64 c.n, .int .i64 c.stripes, .int .i64 c.slots])[j]? = some (.int .i64 z) ∧ 0 ≤ z ∧ z < 256 ∧ (cfgL c)[j]? = some (UInt8.ofNat z.toNat) := by
  have h1 := h.n2
  have h2 := h.k2
  have h3 := h.s2
  have h4 := h.l2
  have h5 := h.n1
  have h6 := h.k1
  have h7 := h.s1
  have h8 := h.l1
  match j, hj with
  | 0, _ => exact ⟨c.k, rfl, by omega, by omega, rfl⟩
  | 1, _ => exact ⟨c.n, rfl, by omega, by omega, rfl⟩
  | 2, _ => exact ⟨c.stripes, rfl, by omega, by omega, rfl⟩
  | 3, _ => exact ⟨c.slots, rfl, by omega, by omega, rfl⟩
theorem block_data (c : CfgM) (d : Nat) : laid (laid blank 0 (leB 4 d)) 4 (cfgL c) = leB 4 d ++ (UInt8.ofNat c.k.toNat :: UInt8.ofNat c.n.toNat :: UInt8.ofNat c.stripes.toNat :: UInt8.ofNat c.slots.toNat :: rep 100 0) := by
  have e1 : blank = [] ++ (rep 4 0 ++ rep 104 0) := rfl
  have e2 : laid blank 0 (leB 4 d) = leB 4 d ++ (rep 4 0 ++ rep 100 0) := by
    rw [e1, laid_mid [] (rep 4 0) (rep 104 0) (leB 4 d) 0 rfl (by rw [leB_len]; rfl)]
    rfl
  rw [e2, laid_mid (leB 4 d) (rep 4 0) (rep 100 0) (cfgL c) 4 (leB_len _ _) rfl]
  rfl
attribute [local go_sem] w8_nn w8_256 wrap_i64_w8 wrap64_w8
attribute [local go_sem ↓] ldFr_eq stFr_eq bdF_eq
set_option maxRecDepth 100000 in
set_option maxHeartbeats 4000000 in
theorem superBlock_any {c : CfgM} (h : c.In) (i : Int) (w : World) :
    Calls Tryz.prog 150 #[.agg #[.int .i64 c.id, .int .i64 c.k, .int .i64 c.n, .int .i64 c.stripes, .int .i64 c.slots], .int .i64 i] w fun e w' => e = .returned (.agg (c.block i).cells) ∧ Below w.heap.size w w' := by
  have hk := Bk.made w 25 #[.int .i64 c.id, .int .i64 c.k, .int .i64 c.n, .int .i64 c.stripes, .int .i64 c.slots]
  have hb := below_new w (.cells #[.int .i64 c.id, .int .i64 c.k, .int .i64 c.n, .int .i64 c.stripes, .int .i64 c.slots] 25)
  have hz := zero_frm
  have hbd4 := bdF_four
  have hbd3 : ∀ w, (bdF #[(0, .int .i64 1), (1, .int .i64 i), (3, .int .i64 1)]).run Tryz.prog w = .ok (.agg (Frm.cells ⟨1, i, 0, 1, blank⟩)) w := fun w => by kernel_rfl
  have hst := stFr_new ((w.alloc (.cells #[.int .i64 c.id, .int .i64 c.k, .int .i64 c.n, .int .i64 c.stripes, .int .i64 c.slots] 25)).alloc (.cells zeroF.cells 273)) zeroF ⟨1, i, 0, 1, blank⟩ blank_len blank_len
  have hsz : ((w.alloc (.cells #[.int .i64 c.id, .int .i64 c.k, .int .i64 c.n, .int .i64 c.stripes, .int .i64 c.slots] 25)).alloc (.cells zeroF.cells 273)).heap.size = w.heap.size + 1 + 1 := by simp
  have hsz1 : (w.alloc (.cells #[.int .i64 c.id, .int .i64 c.k, .int .i64 c.n, .int .i64 c.stripes, .int .i64 c.slots] 25)).heap.size = w.heap.size + 1 := by simp
  have hkz := Bk.made (w.alloc (.cells #[.int .i64 c.id, .int .i64 c.k, .int .i64 c.n, .int .i64 c.stripes, .int .i64 c.slots] 25)) 273 zeroF.cells
  have hbz := below_new (w.alloc (.cells #[.int .i64 c.id, .int .i64 c.k, .int .i64 c.n, .int .i64 c.stripes, .int .i64 c.slots] 25)) (.cells zeroF.cells 273)
  have hkf := Bk.made ((w.alloc (.cells #[.int .i64 c.id, .int .i64 c.k, .int .i64 c.n, .int .i64 c.stripes, .int .i64 c.slots] 25)).alloc (.cells zeroF.cells 273)) 273 (Frm.cells ⟨1, i, 0, 1, blank⟩)
  have hbf := below_new ((w.alloc (.cells #[.int .i64 c.id, .int .i64 c.k, .int .i64 c.n, .int .i64 c.stripes, .int .i64 c.slots] 25)).alloc (.cells zeroF.cells 273)) (.cells (Frm.cells ⟨1, i, 0, 1, blank⟩) 273)
  rw [hsz] at hst hkf
  rw [hsz1] at hkz
  go_enter Tryz.func150, Tryz.ntmps150
  go_wp2_with fail
  generalize ((w.alloc (.cells #[.int .i64 c.id, .int .i64 c.k, .int .i64 c.n, .int .i64 c.stripes, .int .i64 c.slots] 25)).alloc (.cells zeroF.cells 273)).alloc (.cells (Frm.cells ⟨1, i, 0, 1, blank⟩) 273) = W at hkf hbf hst ⊢
  have HK := Lib.hid ((hk.ext hbz).ext hbf)
  have HZ := Lib.hid (hkz.ext hbf)
  have e0 : laid blank 0 (leB 0 c.id.toNat) = blank := laid_nil _ _
  rw [← e0] at hkf
  have HF := Lib.hid hkf
  have HB := Lib.hid ((hb.trans (below_le hb.size hbz)).trans (below_le (Nat.le_trans hb.size hbz.size) hbf))
  clear e0
  clear hst hsz hsz1 hkz hbz hkf hbf hk hb hbd4 hbd3
  obtain ⟨gc, hgc⟩ : ∃ g, g = w.heap.size := ⟨_, rfl⟩
  rw [← hgc] at HK HZ HF ⊢
  have HG := Lib.hid hgc
  clear hgc
  obtain ⟨d, hd⟩ := Int.eq_ofNat_of_zero_le (by have := h.id1; omega : 0 ≤ c.id)
  have hdt : c.id.toNat = d := by rw [hd]; rfl
  have hd2 : (d : Int) ≤ 2147483647 := by have := h.id2; omega
  rw [hdt] at HF
  rw [hd] at HK
  have HDt := Lib.hid hdt
  have HD := Lib.hid hd
  clear hdt hd
  obtain ⟨gf, hgf⟩ : ∃ g, g = gc + 1 + 1 := ⟨_, rfl⟩
  rw [← hgf] at HF ⊢
  have HGf := Lib.hid hgf
  clear hgf
  go_loopw [11] (fun i' wr => ∃ j : Nat, j ≤ 4 ∧ i' = .int .i64 j ∧ Hid (Bk wr gf 273 (Frm.cells ⟨1, i, 0, 1, laid blank 0 (leB j d)⟩)) ∧ Hid (Turned (fun b => b = gf) W wr)) (fun i' _ => 4 - (intOf i').toNat)
  case atStart => exact ⟨0, Nat.zero_le _, rfl, HF, Turned.refl _ _⟩
  case round =>
    obtain ⟨j, hj, rfl, hF, hT⟩ := hrel
    clear HF
    have hll : (laid blank 0 (leB j d)).length = 108 := by rw [laid_len _ _ _ (by rw [leB_len, blank_len]; omega), blank_len]
    by_cases hlt : j < 4
    · have hi : (j : Int) < 4 := by omega
      have k0 : wr.cell? ⟨gc, 0, none⟩ = some (.int .i64 (d : Int)) := (HK.out.turned hT.out (by have := HGf.out; omega)).cell 0
      obtain ⟨u, k1⟩ : ∃ u, wr.cell? ⟨gf, 4 + j, none⟩ = some u := ⟨_, (hF.out.cell _).trans (frm_get (j := j) (by rw [hll]; omega))⟩
      have f1 : wr.frozen? ⟨gf, 4 + j, none⟩ = false := hF.out.thaw _
      have HStep : Hid (Bk (wr.setCell ⟨gf, 4 + j, none⟩ (.int .u8 (w8 (byteAt d j)))) gf 273 (Frm.cells ⟨1, i, 0, 1, laid blank 0 (leB (j + 1) d)⟩)) := by
        have h1 := hF.out.put (4 + j) (.int .u8 (w8 (byteAt d j)))
        rw [frm_put] at h1
        have h2 := laid_snoc blank (leB j d) 0 (byteAt d j) (by rw [leB_len, blank_len]; omega)
        rw [leB_len, Nat.zero_add] at h2
        rw [h2, ← leB_snoc] at h1
        exact h1
      have HTs : Hid (Turned (fun b => b = gf) W (wr.setCell ⟨gf, 4 + j, none⟩ (.int .u8 (w8 (byteAt d j))))) := hT.out.then_grown (grown_set wr ⟨gf, 4 + j, none⟩ _) (fun k e => .inl (Option.some.inj e).symm)
      rw [← byteAt_w8] at HStep HTs
      clear hll
      go_wp2_with fail
      exact ⟨⟨j + 1, by omega, by go_num, HStep, HTs⟩, by simp [intOf]; omega⟩
    · have hj4 : j = 4 := by omega
      subst hj4
      have hc2 := HK.out.turned hT.out (by have := HGf.out; omega)
      have k1 : wr.cell? ⟨gc, 1, none⟩ = some (.int .i64 c.k) := hc2.cell 1
      have k2 : wr.cell? ⟨gc, 2, none⟩ = some (.int .i64 c.n) := hc2.cell 2
      have k3 : wr.cell? ⟨gc, 3, none⟩ = some (.int .i64 c.stripes) := hc2.cell 3
      have k4 : wr.cell? ⟨gc, 4, none⟩ = some (.int .i64 c.slots) := hc2.cell 4
      clear hc2
      have hbs := below_new wr (.cells #[.int .i64 c.k, .int .i64 c.n, .int .i64 c.stripes, .int .i64 c.slots] 3)
      have hks := Bk.made wr 3 #[.int .i64 c.k, .int .i64 c.n, .int .i64 c.stripes, .int .i64 c.slots]
      go_wp2_with fail
      have H0 : Hid (Bk (wr.alloc (.cells #[.int .i64 c.k, .int .i64 c.n, .int .i64 c.stripes, .int .i64 c.slots] 3)) gf 273 (Frm.cells ⟨1, i, 0, 1, laid (laid blank 0 (leB 4 d)) 4 ((cfgL c).take 0)⟩)) := by
        rw [List.take_zero, laid_nil]
        exact hF.out.ext hbs
      have hgs : wr.heap.size ≠ gf := by have := hF.out.lt; omega
      have HTw : Hid (Turned (fun b => b = gf) W (wr.alloc (.cells #[.int .i64 c.k, .int .i64 c.n, .int .i64 c.stripes, .int .i64 c.slots] 3))) := hT.out.then_below hbs
      obtain ⟨gs, hgs2⟩ : ∃ g, g = wr.heap.size := ⟨_, rfl⟩
      rw [← hgs2] at hks hgs ⊢
      have HKs := Lib.hid hks
      generalize wr.alloc (.cells #[.int .i64 c.k, .int .i64 c.n, .int .i64 c.stripes, .int .i64 c.slots] 3) = W2 at H0 HKs HTw ⊢
      have HLl := Lib.hid hll
      clear hbs hks k1 k2 k3 k4 hF hT hll hgs2
      go_loopw [35] (fun i' wr => ∃ j : Nat, j ≤ 4 ∧ i' = .int .i64 j ∧ Hid (Bk wr gf 273 (Frm.cells ⟨1, i, 0, 1, laid (laid blank 0 (leB 4 d)) 4 ((cfgL c).take j)⟩)) ∧ Hid (Turned (fun b => b = gf) W2 wr)) (fun i' _ => 4 - (intOf i').toNat)
      case atStart => exact ⟨0, Nat.zero_le _, rfl, H0, Turned.refl _ _⟩
      case round =>
        obtain ⟨j, hj, rfl, hF, hT⟩ := hrel
        clear H0
        have hll : (laid (laid blank 0 (leB 4 d)) 4 ((cfgL c).take j)).length = 108 := by
          have hl4 : (cfgL c).length = 4 := rfl
          rw [laid_len _ _ _ (by rw [List.length_take, hl4, HLl.out]; omega), HLl.out]
        by_cases hlt : j < 4
        · have hi : (j : Int) < 4 := by omega
          obtain ⟨z, hz0, hz1, hz2, hz3⟩ := cfgL_get h hlt
          have k0 : wr.cell? ⟨gs, j, none⟩ = some (.int .i64 z) := ((HKs.out.turned hT.out hgs).cell j).trans hz0
          obtain ⟨u, k1⟩ : ∃ u, wr.cell? ⟨gf, 4 + (4 + j), none⟩ = some u := ⟨_, (hF.out.cell _).trans (frm_get (j := 4 + j) (by rw [hll]; omega))⟩
          have f1 : wr.frozen? ⟨gf, 4 + (4 + j), none⟩ = false := hF.out.thaw _
          have hz4 : w8 (UInt8.ofNat z.toNat) = z := by rw [w8_ofN _ (by omega)]; omega
          have HStep : Hid (Bk (wr.setCell ⟨gf, 4 + (4 + j), none⟩ (.int .u8 (w8 (UInt8.ofNat z.toNat)))) gf 273 (Frm.cells ⟨1, i, 0, 1, laid (laid blank 0 (leB 4 d)) 4 ((cfgL c).take (j + 1))⟩)) := by
            have h1 := hF.out.put (4 + (4 + j)) (.int .u8 (w8 (UInt8.ofNat z.toNat)))
            rw [frm_put] at h1
            have hlt2 : ((cfgL c).take j).length = j := by rw [List.length_take]; show min j 4 = j; omega
            have h2 := laid_snoc (laid blank 0 (leB 4 d)) ((cfgL c).take j) 4 (UInt8.ofNat z.toNat) (by rw [hlt2, HLl.out]; omega)
            rw [hlt2] at h2
            have h3 : (cfgL c).take j ++ [UInt8.ofNat z.toNat] = (cfgL c).take (j + 1) := by
              rw [List.take_add_one, hz3]
              rfl
            rw [h2, h3] at h1
            exact h1
          have HTs : Hid (Turned (fun b => b = gf) W2 (wr.setCell ⟨gf, 4 + (4 + j), none⟩ (.int .u8 (w8 (UInt8.ofNat z.toNat))))) := hT.out.then_grown (grown_set wr ⟨gf, 4 + (4 + j), none⟩ _) (fun k e => .inl (Option.some.inj e).symm)
          rw [hz4] at HStep HTs
          clear hz4 hz0 hz3
          go_wp2_with fail
          exact ⟨⟨j + 1, by omega, by go_num, HStep, HTs⟩, by simp [intOf]; omega⟩
        · have hj4 : j = 4 := by omega
          subst hj4
          have hdat : laid (laid blank 0 (leB 4 d)) 4 (cfgL c) = (c.block i).data := by
            rw [block_data]
            unfold CfgM.block
            rw [HDt.out]
          have hF1 := hF.out
          rw [show (cfgL c).take 4 = cfgL c from rfl] at hF1 hll
          rw [hdat] at hF1 hll
          have hF2 : Bk wr gf 273 (c.block i).cells := hF1
          have hld := ldFr_bk hF2 hll
          have hZ2 : Bk wr (gc + 1) 273 zeroF.cells := (HZ.out.turned HTw.out (by have := HGf.out; omega)).turned hT.out (by have := HGf.out; omega)
          have hst := stF_bk wr (gc + 1) zeroF (c.block i) hZ2 blank_len hll
          have HF2 := Lib.hid hF2
          have HZ2 := Lib.hid hZ2
          have HHl := Lib.hid hll
          clear hdat hF1 hF2 hll hZ2 hF
          go_wp2_with fail
          have hB1 : Below w.heap.size w W2 := HTw.out.below HB.out HB.out.size (fun i e => by rw [e, HGf.out, HG.out]; omega)
          have hB2 : Below w.heap.size w wr := hT.out.below hB1 hB1.size (fun i e => by rw [e, HGf.out, HG.out]; omega)
          exact bodyPost_ret (results_cell_row rfl _ _ (gc + 1) 273 (c.block i).cells (0, 0) _ rfl (Bk.rowF HZ2.out _) Tryz.underlying273 rfl (size_of (f := c.block i) HHl.out)) rfl ⟨rfl, hB2.grown (grown_rowF _ _ _) hB2.size (fun k hk => by injection hk with hk; have := HG.out; omega)⟩
end Go.Proofs.YtkdlofgfkfhofaaGreatDoor
