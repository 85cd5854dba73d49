import Derived.Test.YtkdlofgfkfhofaaGreatDoorP04
/-
  disk: Read, Write.
-/
namespace Go.Proofs.YtkdlofgfkfhofaaGreatDoor
open Go.RowKit Go.Maps

theorem zero_bs (w : World) : (zeroValue 26).run Tryz.prog w = .ok (.slice none 0 0) w := by kernel_rfl
/-- what waits for a sector, looked up -/
theorem wt_look {w : World} {P : Nat → Prop} {wb N : Nat} {D : DataW Value} {M : DskM} (ho : w.ownsMap Tryz.prog 3 rawElem wb N D) (hw : WtAt w P D M) {i : Nat} (hi : i < 1000) :
    (∃ A c b, M.wt i = some b ∧ (Instr.lookup 179 (.map (some wb)) (.int .i64 (i : Int)) true).run Tryz.prog w = .ok (.tuple #[.slice A b.length c, .bool true]) w ∧ RdB w A b.length c b) ∨
    (M.wt i = none ∧ (Instr.lookup 179 (.map (some wb)) (.int .i64 (i : Int)) true).run Tryz.prog w = .ok (.tuple #[.slice none 0 0, .bool false]) w) := by
  obtain ⟨v, ps, hlk, hv⟩ := ho.look_ok key_intd2 Tryz.underlying179 (zero_bs _) (show rawElem (.slice none 0 0) = some (.held (.slice none 0 0), []) from rfl) (keyOf_int_mk Tryz.underlying3 (wf_int (z := (i : Int)) (by omega) (by omega)))
  have hv : some (DataW.held v, ([] : List MemPlace)) = some (_, ps) := hv
  injection hv with hv
  injection hv with hv _
  cases hd : M.wt i with
  | none =>
    have h3 := hw.no i hd
    rw [atKey_of_not_has h3] at hv
    injection hv with hv
    refine .inr ⟨rfl, ?_⟩
    rw [hlk, h3, hv]
  | some b =>
    obtain ⟨u, h3, h4, h5, _⟩ := hw.yes i b hd
    rw [h4] at hv
    injection hv with hv
    obtain ⟨A, c, rfl, hr⟩ := h5.reads
    refine .inl ⟨A, c, b, rfl, ?_, hr⟩
    rw [hlk, h3, hv]
theorem DskM.bad_zero {M : DskM} {i : Int} {wrong : Bool} (h : M.bad i wrong = 0) : M.dead = false ∧ wrong = false ∧ ∃ k : Nat, i = k ∧ k < M.n := by
  unfold DskM.bad at h
  split at h
  · cases h
  · rename_i hd
    split at h
    · cases h
    · rename_i hw
      obtain ⟨h1, h2⟩ := not_or.1 hw
      obtain ⟨h3, h4⟩ := not_or.1 h2
      exact ⟨by simpa using hd, by simpa using h1, i.toNat, by omega, by omega⟩
/-- what disk.Read hands back -/
def ReadR (n : Nat) (w : World) (k : Int) (l : List UInt8) (e : Ending) (w' : World) : Prop :=
  ∃ v u, e = .returned (.tuple #[v, u]) ∧ ErrR n u k ∧ (k = 0 → OwnB w' w.heap.size v l) ∧ (k ≠ 0 → v = .slice none 0 0) ∧ Below w.heap.size w w'
set_option maxRecDepth 100000 in
set_option maxHeartbeats 2000000 in
theorem dskRead_any {P : Nat → Prop} {d : Nat} {M : DskM} {w : World} (h : DskAt w P d M) (i : Int) :
    Calls Tryz.prog 257 #[.pointer (some ⟨d, 0, none⟩), .int .i64 i] w fun e w' => ReadR 1 w (M.bad i false) (M.read i.toNat) e w' := by
  have HR := Lib.hid (dskRefused_any h ⟨#[100, 105, 115, 107, 46, 82, 101, 97, 100]⟩ i false)
  obtain ⟨lb, wb, rb, cap, C, D, hp⟩ := h
  by_cases hk : M.bad i false = 0
  · obtain ⟨_, _, k, rfl, hkn⟩ := DskM.bad_zero hk
    rw [hk] at HR ⊢
    have hfew := hp.ok.few
    have c0 : w.cell? ⟨d, 0, none⟩ = some (.slice (some ⟨lb, 0, none⟩) M.n cap) := hp.bk.cell 0
    have c1 : w.cell? ⟨d, 1, none⟩ = some (.map (some wb)) := hp.bk.cell 1
    have hi : (k : Int) < M.n := by omega
    rw [Int.toNat_natCast]
    rcases wt_look hp.map hp.wts (i := k) (by omega) with ⟨A, c, b, hwt, hlk, hrd⟩ | ⟨hwt, hlk⟩
    · have hb := (hp.ok.wt k b hwt).2
      have hrd2 : M.read k = b := by unfold DskM.read; rw [hwt]; rfl
      rw [hrd2]
      have HCl := Lib.hid (clone_own A b.length c b w hrd (by omega))
      clear hp hk hwt hrd hrd2 c0 hkn hb
      go_enter Tryz.func257, Tryz.ntmps257
      go_wp2_with (first | (go_at_call 126; with_reducible refine HR.out.mono ?_; rintro er w4 ⟨v4, rfl, he4, rfl⟩; obtain rfl := he4.of_nil; clear he4) | (go_at_call 44; with_reducible refine HCl.out.mono ?_; rintro er w5 ⟨v5, rfl, ho5, hb5⟩) | fail)
      go_ret2
      exact ⟨_, _, rfl, .nil 1, fun _ => ho5, fun h => absurd rfl h, hb5⟩
    · obtain ⟨v, hC, ho, _⟩ := hp.sec.at_ k hkn
      obtain ⟨A, c, rfl, hrd⟩ := ho.reads
      have hl := hp.ok.sec k
      have hrd2 : M.read k = M.sec k := by unfold DskM.read; rw [hwt]; rfl
      have c2 : w.cell? ⟨lb, k, none⟩ = some (.slice A (M.sec k).length c) := (hp.sec.bk.cell k).trans hC
      rw [hrd2]
      have HCl := Lib.hid (clone_own A (M.sec k).length c (M.sec k) w hrd (by omega))
      clear hp hk hwt hrd hrd2 ho hC hkn hl
      go_enter Tryz.func257, Tryz.ntmps257
      go_wp2_with (first | (go_at_call 126; with_reducible refine HR.out.mono ?_; rintro er w4 ⟨v4, rfl, he4, rfl⟩; obtain rfl := he4.of_nil; clear he4) | (go_at_call 44; with_reducible refine HCl.out.mono ?_; rintro er w5 ⟨v5, rfl, ho5, hb5⟩) | fail)
      go_ret2
      exact ⟨_, _, rfl, .nil 1, fun _ => ho5, fun h => absurd rfl h, hb5⟩
  · generalize M.bad i false = k at HR hk ⊢
    have HK := Lib.hid hk
    clear hp hk
    go_enter Tryz.func257, Tryz.ntmps257
    go_wp2_with (first | (go_at_call 126; with_reducible refine HR.out.mono ?_; rintro er w4 ⟨v4, rfl, he4, rfl⟩; obtain ⟨ty, x, rfl⟩ := he4.iface HK.out; have HE := Lib.hid he4; clear he4) | fail)
    go_ret2
    exact ⟨_, _, rfl, HE.out, fun h => absurd h HK.out, fun _ => rfl, Below.refl _ _⟩
/-- something is laid into the map of what waits -/
theorem DskP.laid {P : Nat → Prop} {d lb wb rb cap : Nat} {C : Array Value} {D : DataW Value} {M : DskM} {w w5 w6 : World} (hp : DskP w P d lb wb rb cap C D M) {k : Nat} (hk : k < M.n) {v : Value} {l : List UInt8} (hl : l.length = 128)
    (hb5 : Below w.heap.size w w5) (ho5 : OwnB w5 w.heap.size v l) {N : Nat} (hm : w6.ownsMap Tryz.prog 3 rawElem wb N (D.put (.int .i64 (k : Int)) (.held v))) (hg : w5.grownBy w6 (some wb)) :
    DskAt w6 (Wide P w) d (M.write k l) ∧ Turned P w w6 := by
  have ht6 : Turned (fun b => b = wb) w5 w6 := Turned.of_grown hg (fun j e => (Option.some.inj e).symm)
  have hT : Turned P w w6 := (Turned.of_below (P := P) hb5).then_grown hg (fun j e => .inl (by rw [← Option.some.inj e]; exact hp.mown))
  have hne : ∀ {t : TypeId} {g : Nat} {cs : Array Value}, Bk w g t cs → g ≠ wb := fun {t g cs} h1 e => by
    obtain ⟨es, clock, h2, _⟩ := hp.map
    rw [← e] at h2
    unfold Bk at h1
    rw [h1] at h2
    cases h2
  have hown : ∀ {u : Value} {m : List UInt8} {w1 : World}, OwnB w1 0 u m → w1.heap[wb]? = w5.heap[wb]? → ∀ g, u.ownBlock = some g → g ≠ wb := fun {u m w1} h1 he g hg e => by
    rcases h1.2 with ⟨rfl, _⟩ | ⟨g', cap', cur, rfl, _, h3, _⟩
    · cases hg
    · have e2 : g' = g := Option.some.inj hg
      obtain ⟨es, clock, h2, _⟩ := hp.map.kept (grown_of_below hb5) (by simp)
      rw [e2, e, he, h2] at h3
      cases h3
  have hq : ∀ i, i < w5.heap.size → (Wide P w i ∧ i ≠ wb) → ¬ (fun b => b = wb) i := fun i _ h e => h.2 e
  have hsz := hp.map.lt
  have hs5 := hb5.size
  -- each part, behind the clone and the store
  have p1 : Bk w6 d 182 _ := (hp.bk.ext hb5).turned ht6 (hne hp.bk)
  have hdisj : ∀ i, i < w.heap.size → (P i ∧ i ≠ wb) → ¬ (fun b => b = wb) i := fun i _ h e => h.2 e
  refine ⟨⟨lb, wb, rb, cap, C, D.put (.int .i64 (k : Int)) (.held v), ⟨hp.ok.write hk hl, .inl hp.own, p1, hp.room, hp.big, ?_, ?_, .inl hp.mown, ?_, ?_, hp.ne⟩⟩, hT⟩
  · refine ⟨(hp.sec.bk.ext hb5).turned ht6 (hne hp.sec.bk), .inl hp.sec.own, fun i hi => ?_⟩
    obtain ⟨u, h1, h2, h3⟩ := hp.sec.at_ i hi
    have h5 : OwnB w5 0 u (M.sec i) := h2.turned (Q := fun _ => False) (Turned.of_below hb5) (fun _ _ => id)
    exact ⟨u, h1, h5.turned ht6 (hown h5 rfl), fun g hg => .inl (h3 g hg)⟩
  · refine (own_tight hm).mono ?_
    refine Nat.le_trans (keys_few (n := M.n) (hm.canon key_intd2) fun q hq => ?_) hp.ok.few
    by_cases e : q = .int .i64 (k : Int)
    · exact ⟨k, e, hk⟩
    · rw [has_put_other e] at hq
      exact hp.wts.keys q hq
  · have hw6 : WtAt w6 (Wide P w) D M := ⟨fun i b hb => by
      obtain ⟨u, h1, h2, h3, h4⟩ := hp.wts.yes i b hb
      have h5 : OwnB w5 0 u b := h3.turned (Q := fun _ => False) (Turned.of_below hb5) (fun _ _ => id)
      exact ⟨u, h1, h2, h5.turned ht6 (hown h5 rfl), fun g hg => .inl (h4 g hg)⟩, hp.wts.no, hp.wts.keys⟩
    exact hw6.put (hp.map.isMap) hk ((ho5.low).turned ht6 (hown ho5.low rfl)) (fun g hg => .inr (ho5.own_lt g hg))
  · obtain ⟨⟨E, h1, h2⟩, h3⟩ := hp.rot
    exact ⟨⟨E, map_turned (map_turned h1 (Turned.of_below (P := fun _ => False) hb5) id) ht6 (fun e => hp.ne e.symm), h2⟩, .inl h3⟩
theorem DskP.dne {P : Nat → Prop} {d lb wb rb cap : Nat} {C : Array Value} {D : DataW Value} {M : DskM} {w : World} (hp : DskP w P d lb wb rb cap C D M) : d ≠ wb := fun e => by
  obtain ⟨es, clock, h2, _⟩ := hp.map
  have h1 := hp.bk
  rw [← e] at h2
  unfold Bk at h1
  rw [h1] at h2
  cases h2
set_option maxRecDepth 100000 in
set_option maxHeartbeats 2000000 in
theorem dskWrite_any {P : Nat → Prop} {d : Nat} {M : DskM} {w : World} (h : DskAt w P d M) (i : Int) (A : Option Addr) (n c : Nat) (l : List UInt8) (hr : RdB w A n c l) :
    Calls Tryz.prog 142 #[.pointer (some ⟨d, 0, none⟩), .int .i64 i, .slice A n c] w fun e w' => ∃ v, e = .returned v ∧ ErrR 1 v (M.bad i (decide (l.length ≠ 128))) ∧
      DskAt w' (Wide P w) d (if M.bad i (decide (l.length ≠ 128)) = 0 then M.write i.toNat l else M) ∧ Turned P w w' := by
  have HR := Lib.hid (dskRefused_any h ⟨#[100, 105, 115, 107, 46, 87, 114, 105, 116, 101]⟩ i (decide (l.length ≠ 128)))
  have hlen := hr.len
  have hq : ((n : Int) != 128) = decide (l.length ≠ 128) := by
    rw [hlen]
    by_cases e : n = 128
    · subst e; rfl
    · rw [decide_eq_true e, bne_iff_ne]; omega
  have H0 := Lib.hid h
  obtain ⟨lb, wb, rb, cap, C, D, hp⟩ := h
  by_cases hk : M.bad i (decide (l.length ≠ 128)) = 0
  · rw [if_pos hk]
    rw [hk] at HR ⊢
    obtain ⟨_, hl, k, rfl, hkn⟩ := DskM.bad_zero hk
    rw [hl] at hq HR
    have hl : l.length = 128 := by simpa using hl
    have hfew := hp.ok.few
    have c1 : w.cell? ⟨d, 1, none⟩ = some (.map (some wb)) := hp.bk.cell 1
    have HCl : Hid (∀ v, Below w.heap.size w v → Calls Tryz.prog 44 #[.slice A n c] v fun e w' => ∃ u, e = .returned u ∧ OwnB w' w.heap.size u l ∧ Below w.heap.size w w') := fun v hv => (clone_own A n c l v (hr.ext hv) (by omega)).mono fun e w' ⟨u, a1, a2, a3⟩ => ⟨u, a1, a2.moreD hv.size, hv.trans (below_le hv.size a3)⟩
    have FS : Hid (∀ v, Below w.heap.size w v → v.cell? ⟨d, 1, none⟩ = some (.map (some wb))) := fun v hv => (hp.bk.ext hv).cell 1
    have F00 : Hid (Below w.heap.size w w.drew) := below_drew1 (Below.refl _ _)
    have hkey := keyOf_int_mk Tryz.underlying3 (P := Tryz.prog) (wf_int (z := (k : Int)) (by omega) (by omega))
    have HP := Lib.hid hp
    have HKN := Lib.hid hkn
    have HL := Lib.hid hl
    rw [Int.toNat_natCast]
    clear hp hk hr H0 hlen hl hkn
    go_enter Tryz.func142, Tryz.ntmps142
    go_wp2_with (first | (go_at_call 126; with_reducible refine HR.out.mono ?_; rintro er w4 ⟨v4, rfl, he4, rfl⟩; obtain rfl := he4.of_nil; clear he4) | fail)
    go_region_held3 (fun v => v.cell? ⟨d, 1, none⟩ = some (.map (some wb))) (first | exact FS.out _ F00.out | exact FS.out _ HB5.out | exact FS6.out) (first | (go_at_call 44; go_loud ((with_reducible refine (HCl.out _ F00.out).mono ?_); rintro er w5 ⟨v5, rfl, ho5, hb5⟩; have HO5 := Lib.hid ho5; have HB5 := Lib.hid hb5; obtain ⟨w6, hrun6, hm6, hg6⟩ := (map_turned (P := fun _ => False) HP.out.map (Turned.of_below hb5) id).update key_intd2 Tryz.underlying179 (by decide) hkey (show rawElem v5 = some (.held v5, []) from rfl); have HM6 := Lib.hid hm6; have HG6 := Lib.hid hg6; have FS6 : Hid (w6.cell? ⟨d, 1, none⟩ = some (.map (some wb))) := (grown_cellD hg6 ⟨d, 1, none⟩ (cell_ltD (FS.out _ hb5)) (fun e => absurd (Option.some.inj e) HP.out.dne)).trans (FS.out _ hb5); clear ho5 hb5 hm6 hg6)) | fail)
    go_wp2_with fail
    go_ret
    obtain ⟨h1, h2⟩ := HP.out.laid HKN.out HL.out HB5.out HO5.out HM6.out HG6.out
    exact ⟨_, rfl, .nil 1, h1, h2⟩
  · rw [if_neg hk]
    generalize M.bad i (decide (l.length ≠ 128)) = k at HR hk ⊢
    generalize decide (l.length ≠ 128) = wrong at hq HR
    have HK := Lib.hid hk
    clear hp hk hr hlen
    go_enter Tryz.func142, Tryz.ntmps142
    go_wp2_with (first | (go_at_call 126; with_reducible refine HR.out.mono ?_; rintro er w4 ⟨v4, rfl, he4, rfl⟩; obtain ⟨ty, x, rfl⟩ := he4.iface HK.out; have HE := Lib.hid he4; clear he4) | fail)
    go_ret
    exact ⟨_, rfl, HE.out, H0.out.more (fun _ _ h => .inl h), Turned.refl _ _⟩
end Go.Proofs.YtkdlofgfkfhofaaGreatDoor

/-
  rack: N, Sectors, has, Up, Off, may.
-/
namespace Go.Proofs.YtkdlofgfkfhofaaGreatDoor
open Go.RowKit Go.Maps

set_option maxRecDepth 100000 in
theorem rackN_any {o : Nat → Option Nat} {r : Nat} {M : RackM} {w : World} (h : RackAt w o r M) :
    Calls Tryz.prog 92 #[.pointer (some ⟨r, 0, none⟩)] w fun e w' => e = .returned (.int .i64 M.n) ∧ w' = w := by
  obtain ⟨lb, cap, C, d, hp⟩ := h
  have c0 : w.cell? ⟨r, 0, none⟩ = some (.slice (some ⟨lb, 0, none⟩) M.n cap) := hp.bk.cell 0
  clear hp
  go_enter Tryz.func92, Tryz.ntmps92
  go_wp2
  go_ret
  exact ⟨rfl, rfl⟩
set_option maxRecDepth 100000 in
theorem rackOff_any {o : Nat → Option Nat} {r : Nat} {M : RackM} {w : World} (h : RackAt w o r M) :
    Calls Tryz.prog 47 #[.pointer (some ⟨r, 0, none⟩)] w fun e w' => e = .returned (.bool M.off) ∧ w' = w := by
  obtain ⟨lb, cap, C, d, hp⟩ := h
  have c1 : w.cell? ⟨r, 1, none⟩ = some (.bool M.off) := hp.bk.cell 1
  clear hp
  go_enter Tryz.func47, Tryz.ntmps47
  go_wp2
  go_ret
  exact ⟨rfl, rfl⟩
set_option maxRecDepth 100000 in
theorem rackSectors_any {o : Nat → Option Nat} {r : Nat} {M : RackM} {w : World} (h : RackAt w o r M) :
    Calls Tryz.prog 94 #[.pointer (some ⟨r, 0, none⟩)] w fun e w' => e = .returned (.int .i64 M.sectors) ∧ w' = w := by
  obtain ⟨lb, cap, C, d, hp⟩ := h
  have hn := hp.ok.pos
  have c0 : w.cell? ⟨r, 0, none⟩ = some (.slice (some ⟨lb, 0, none⟩) M.n cap) := hp.bk.cell 0
  have c1 : w.cell? ⟨lb, 0, none⟩ = some (.pointer (some ⟨d 0, 0, none⟩)) := (hp.row.cell 0).trans (hp.at_ 0 (by omega)).1
  have HS := Lib.hid (dskSectors_any (hp.at_ 0 (by omega)).2)
  have hi : (0 : Int) < M.n := by omega
  clear hp
  go_enter Tryz.func94, Tryz.ntmps94
  go_wp2_with (first | (go_at_call 140; with_reducible refine HS.out.mono ?_; rintro er w4 ⟨rfl, rfl⟩) | fail)
  go_ret
  exact ⟨rfl, rfl⟩
set_option maxRecDepth 100000 in
theorem rackHas_any {o : Nat → Option Nat} {r : Nat} {M : RackM} {w : World} (h : RackAt w o r M) (i : Int) (b : Bool) (hb : decide (0 ≤ i ∧ i < M.n) = b) :
    Calls Tryz.prog 73 #[.pointer (some ⟨r, 0, none⟩), .int .i64 i] w fun e w' => e = .returned (.bool b) ∧ w' = w := by
  obtain ⟨lb, cap, C, d, hp⟩ := h
  have c0 : w.cell? ⟨r, 0, none⟩ = some (.slice (some ⟨lb, 0, none⟩) M.n cap) := hp.bk.cell 0
  have hcase : (0 ≤ i ∧ i < M.n ∧ b = true) ∨ (¬ 0 ≤ i ∧ b = false) ∨ (0 ≤ i ∧ ¬ i < M.n ∧ b = false) := by
    by_cases h0 : 0 ≤ i
    · by_cases h1 : i < M.n
      · exact .inl ⟨h0, h1, by rw [← hb]; exact decide_eq_true ⟨h0, h1⟩⟩
      · exact .inr (.inr ⟨h0, h1, by rw [← hb]; exact decide_eq_false (fun h => h1 h.2)⟩)
    · exact .inr (.inl ⟨h0, by rw [← hb]; exact decide_eq_false (fun h => h0 h.1)⟩)
  clear hp hb
  rcases hcase with ⟨h0, h1, rfl⟩ | ⟨h0, rfl⟩ | ⟨h0, h1, rfl⟩
  all_goals
    go_enter Tryz.func73, Tryz.ntmps73
    go_wp2
    go_ret
    exact ⟨rfl, rfl⟩
set_option maxRecDepth 100000 in
set_option maxHeartbeats 1000000 in
theorem rackUp_any {o : Nat → Option Nat} {r : Nat} {M : RackM} {w : World} (h : RackAt w o r M) (i : Int) (b : Bool) (hb : M.up i = b) :
    Calls Tryz.prog 89 #[.pointer (some ⟨r, 0, none⟩), .int .i64 i] w fun e w' => e = .returned (.bool b) ∧ w' = w := by
  have HH := Lib.hid (rackHas_any h i _ rfl)
  obtain ⟨lb, cap, C, d, hp⟩ := h
  have hok := hp.ok.few
  have c0 : w.cell? ⟨r, 0, none⟩ = some (.slice (some ⟨lb, 0, none⟩) M.n cap) := hp.bk.cell 0
  by_cases hin : 0 ≤ i ∧ i < M.n
  · obtain ⟨k, rfl⟩ := Int.eq_ofNat_of_zero_le hin.1
    have hk : k < M.n := by omega
    have c1 : w.cell? ⟨lb, k, none⟩ = some (.pointer (some ⟨d k, 0, none⟩)) := (hp.row.cell k).trans (hp.at_ k hk).1
    have HD := Lib.hid (dskDead_any (hp.at_ k hk).2)
    rw [decide_eq_true hin] at HH
    have h1 : (k : Int) < M.n := by omega
    have hb : (!(M.d k).dead) = b := by rw [← hb]; unfold RackM.up; simp [hk]
    have HB := Lib.hid hb
    clear hp hb hin hok
    go_enter Tryz.func89, Tryz.ntmps89
    go_wp2_with (first | (go_at_call 73; with_reducible refine HH.out.mono ?_; rintro er w4 ⟨rfl, rfl⟩) | (go_at_call 138; with_reducible refine HD.out.mono ?_; rintro er w5 ⟨rfl, rfl⟩) | fail)
    go_ret
    exact ⟨by rw [HB.out]; rfl, rfl⟩
  · rw [decide_eq_false hin] at HH
    have hb : false = b := by
      rw [← hb]
      unfold RackM.up
      by_cases h0 : 0 ≤ i
      · rw [decide_eq_false (p := i < M.n) (fun h => hin ⟨h0, h⟩)]; simp
      · rw [decide_eq_false h0]; rfl
    have HB := Lib.hid hb
    clear hp hb hin hok
    go_enter Tryz.func89, Tryz.ntmps89
    go_wp2_with (first | (go_at_call 73; with_reducible refine HH.out.mono ?_; rintro er w4 ⟨rfl, rfl⟩) | fail)
    go_ret
    exact ⟨by rw [HB.out]; rfl, rfl⟩
/-- the fuse turned, or the power -/
theorem RackP.fuse {w : World} {o : Nat → Option Nat} {r lb cap : Nat} {C : Array Value} {d : Nat → Nat} {M : RackM} (h : RackP w o r lb cap C d M) (z : Int) (h0 : -1 ≤ z) (h1 : z ≤ 9223372036854775807) :
    RkPost w o r { M with fuse := z } (w.setCell ⟨r, 2, none⟩ (.int .i64 z)) := by
  have ht : Turned (fun b => b = r) w (w.setCell ⟨r, 2, none⟩ (.int .i64 z)) := Turned.of_grown (grown_set w ⟨r, 2, none⟩ _) (fun k e => (Option.some.inj e).symm)
  refine ⟨o, ⟨lb, cap, C, d, ⟨h.ok.pos, h.ok.few, h.ok.d, h.ok.same, h0, h1⟩, h.own, h.lown, h.bk.put 2 _, h.row.turned ht (fun e => ?_), h.room, h.big, fun i hi => ⟨(h.at_ i hi).1, (h.at_ i hi).2.turned ht (fun b _ hb e => ?_)⟩, fun b hb => Nat.lt_of_lt_of_le (h.lim b hb) ht.size⟩, fun _ _ => rfl, ht.more fun b _ e => by rw [e, h.own]; simp⟩
  · have h1 := h.bk
    have h2 := h.row
    rw [e] at h2
    unfold Bk at h1 h2
    rw [h1] at h2
    injection h2 with h2
    injection h2 with h2 h3
    exact absurd h3 (by decide)
  · have hb : o b = some (i + 1) := hb
    rw [e, h.own] at hb
    cases hb
theorem RackP.power {w : World} {o : Nat → Option Nat} {r lb cap : Nat} {C : Array Value} {d : Nat → Nat} {M : RackM} (h : RackP w o r lb cap C d M) (z : Bool) :
    RkPost w o r { M with off := z } (w.setCell ⟨r, 1, none⟩ (.bool z)) := by
  have ht : Turned (fun b => b = r) w (w.setCell ⟨r, 1, none⟩ (.bool z)) := Turned.of_grown (grown_set w ⟨r, 1, none⟩ _) (fun k e => (Option.some.inj e).symm)
  refine ⟨o, ⟨lb, cap, C, d, ⟨h.ok.pos, h.ok.few, h.ok.d, h.ok.same, h.ok.f0, h.ok.f1⟩, h.own, h.lown, h.bk.put 1 _, h.row.turned ht (fun e => ?_), h.room, h.big, fun i hi => ⟨(h.at_ i hi).1, (h.at_ i hi).2.turned ht (fun b _ hb e => ?_)⟩, fun b hb => Nat.lt_of_lt_of_le (h.lim b hb) ht.size⟩, fun _ _ => rfl, ht.more fun b _ e => by rw [e, h.own]; simp⟩
  · have h1 := h.bk
    have h2 := h.row
    rw [e] at h2
    unfold Bk at h1 h2
    rw [h1] at h2
    injection h2 with h2
    injection h2 with h2 h3
    exact absurd h3 (by decide)
  · have hb : o b = some (i + 1) := hb
    rw [e, h.own] at hb
    cases hb
set_option maxRecDepth 100000 in
set_option maxHeartbeats 4000000 in
theorem rackMay_any {o : Nat → Option Nat} {r : Nat} {M : RackM} {w : World} (h : RackAt w o r M) (i : Int) (wrong : Bool) {M' : RackM} {k : Int} (hM : M.may i wrong = (M', k)) :
    Calls Tryz.prog 141 #[.pointer (some ⟨r, 0, none⟩), .int .i64 i, .bool wrong] w fun e w' => e = .returned (.int .i64 k) ∧ RkPost w o r M' w' := by
  have HH := Lib.hid (rackHas_any h i _ rfl)
  have HU := Lib.hid (rackUp_any h i _ rfl)
  have HS := Lib.hid (RkPost.same h)
  obtain ⟨lb, cap, C, d, hp⟩ := h
  have c1 : w.cell? ⟨r, 1, none⟩ = some (.bool M.off) := hp.bk.cell 1
  have c2 : w.cell? ⟨r, 2, none⟩ = some (.int .i64 M.fuse) := hp.bk.cell 2
  have f1 : w.frozen? ⟨r, 1, none⟩ = false := hp.bk.thaw 1
  have f2 : w.frozen? ⟨r, 2, none⟩ = false := hp.bk.thaw 2
  have hf0 := hp.ok.f0
  have hf1 := hp.ok.f1
  unfold RackM.may at hM
  by_cases hin : 0 ≤ i ∧ i < M.n
  · rw [if_neg (not_not_intro hin)] at hM
    rw [decide_eq_true hin] at HH
    cases hoff : M.off with
    | true =>
      rw [if_pos (.inl hoff)] at hM
      cases hM
      rw [hoff] at c1
      clear hp hin
      go_enter Tryz.func141, Tryz.ntmps141
      go_wp2_with (first | (go_at_call 73; with_reducible refine HH.out.mono ?_; rintro er w4 ⟨rfl, rfl⟩) | fail)
      go_ret
      exact ⟨rfl, HS.out⟩
    | false =>
      rw [hoff] at c1
      cases hup : M.up i with
      | false =>
        rw [if_pos (.inr hup)] at hM
        cases hM
        rw [hup] at HU
        clear hp hin
        go_enter Tryz.func141, Tryz.ntmps141
        go_wp2_with (first | (go_at_call 73; with_reducible refine HH.out.mono ?_; rintro er w4 ⟨rfl, rfl⟩) | (go_at_call 89; with_reducible refine HU.out.mono ?_; rintro er w5 ⟨rfl, rfl⟩) | fail)
        go_ret
        exact ⟨rfl, HS.out⟩
      | true =>
        rw [if_neg (by rw [hoff, hup]; simp)] at hM
        rw [hup] at HU
        cases wrong with
        | true =>
          rw [if_pos rfl] at hM
          cases hM
          clear hp hin
          go_enter Tryz.func141, Tryz.ntmps141
          go_wp2_with (first | (go_at_call 73; with_reducible refine HH.out.mono ?_; rintro er w4 ⟨rfl, rfl⟩) | (go_at_call 89; with_reducible refine HU.out.mono ?_; rintro er w5 ⟨rfl, rfl⟩) | fail)
          go_ret
          exact ⟨rfl, HS.out⟩
        | false =>
          rw [if_neg (by simp)] at hM
          by_cases h0 : M.fuse = 0
          · rw [if_pos h0] at hM
            cases hM
            have q0 : (M.fuse == 0) = true := by simp [h0]
            have HR := Lib.hid (hp.power true)
            clear hp hin h0 HS
            go_enter Tryz.func141, Tryz.ntmps141
            go_wp2_with (first | (go_at_call 73; with_reducible refine HH.out.mono ?_; rintro er w4 ⟨rfl, rfl⟩) | (go_at_call 89; with_reducible refine HU.out.mono ?_; rintro er w5 ⟨rfl, rfl⟩) | fail)
            go_ret
            exact ⟨rfl, HR.out⟩
          · rw [if_neg h0] at hM
            have q0 : (M.fuse == 0) = false := by simp [h0]
            by_cases h1 : 0 < M.fuse
            · rw [if_pos h1] at hM
              cases hM
              have HR := Lib.hid (hp.fuse (M.fuse - 1) (by omega) (by omega))
              clear hp hin h0 HS
              go_enter Tryz.func141, Tryz.ntmps141
              go_wp2_with (first | (go_at_call 73; with_reducible refine HH.out.mono ?_; rintro er w4 ⟨rfl, rfl⟩) | (go_at_call 89; with_reducible refine HU.out.mono ?_; rintro er w5 ⟨rfl, rfl⟩) | fail)
              go_ret
              exact ⟨rfl, HR.out⟩
            · rw [if_neg h1] at hM
              cases hM
              clear hp hin h0
              go_enter Tryz.func141, Tryz.ntmps141
              go_wp2_with (first | (go_at_call 73; with_reducible refine HH.out.mono ?_; rintro er w4 ⟨rfl, rfl⟩) | (go_at_call 89; with_reducible refine HU.out.mono ?_; rintro er w5 ⟨rfl, rfl⟩) | fail)
              go_ret
              exact ⟨rfl, HS.out⟩
  · rw [if_pos hin] at hM
    cases hM
    rw [decide_eq_false hin] at HH
    clear hp hin
    go_enter Tryz.func141, Tryz.ntmps141
    go_wp2_with (first | (go_at_call 73; with_reducible refine HH.out.mono ?_; rintro er w4 ⟨rfl, rfl⟩) | fail)
    go_ret
    exact ⟨rfl, HS.out⟩
end Go.Proofs.YtkdlofgfkfhofaaGreatDoor

/-
  disk: blank, New.
-/
namespace Go.Proofs.YtkdlofgfkfhofaaGreatDoor
open Go.RowKit Go.Maps

/-- blank's rounds: the first i sectors are noughts of blocks that are new -/
structure BlkAt (w wr : World) (lb n i : Nat) : Prop where
  turned : Turned (fun b => b = lb) w wr
  row : ∃ C, Bk wr lb 26 C ∧ n ≤ C.size ∧ ∀ j, j < i → ∃ v, C[j]? = some v ∧ OwnB wr w.heap.size v (rep 128 0)
theorem own_zero (w : World) : OwnB (w.alloc (zeroBytes 128)) w.heap.size (.slice (some ⟨w.heap.size, 0, none⟩) 128 128) (rep 128 0) := by
  refine ⟨by rw [bvs_len, rep_len], .inr ⟨w.heap.size, 128, (bvs (rep 128 0)).toArray, by rw [rep_len], Nat.le_refl _, heap_alloc_new w _, by rw [rep_len]; exact Nat.le_refl _, by decide, by rw [List.size_toArray, bvs_len, rep_len], ?_⟩⟩
  rw [rep_len, List.take_of_length_le (by rw [bvs_len, rep_len]; exact Nat.le_refl _)]
theorem BlkAt.step {w wr : World} {lb n i : Nat} (h : BlkAt w wr lb n i) (hi : i < n) : BlkAt w ((wr.alloc (zeroBytes 128)).setCell ⟨lb, i, none⟩ (.slice (some ⟨wr.heap.size, 0, none⟩) 128 128)) lb n (i + 1) := by
  obtain ⟨C, hC, hn, hj⟩ := h.row
  have hb := below_new wr (zeroBytes 128)
  have hl := hC.lt
  have hg := grown_set (wr.alloc (zeroBytes 128)) ⟨lb, i, none⟩ (.slice (some ⟨wr.heap.size, 0, none⟩) 128 128)
  have ht : Turned (fun b => b = lb) (wr.alloc (zeroBytes 128)) _ := Turned.of_grown hg (fun k e => (Option.some.inj e).symm)
  have hz : ∀ {v : Value} {l : List UInt8}, OwnB (wr.alloc (zeroBytes 128)) w.heap.size v l → ∀ g, v.ownBlock = some g → ¬ g = lb := fun {v l} hv g hg e => by
    have hC1 := hC.ext hb
    rcases hv.2 with ⟨rfl, _⟩ | ⟨g', cap', cur, rfl, _, h3, _⟩
    · cases hg
    · have e2 : g' = g := Option.some.inj hg
      rw [e2, e] at h3
      unfold Bk at hC1
      rw [hC1] at h3
      injection h3 with h3
      injection h3 with _ h3
      exact absurd h3 (by decide)
  refine ⟨(h.turned.then_below hb).then_grown hg (fun k e => .inl (Option.some.inj e).symm), C.setIfInBounds i _, (hC.ext hb).put i _, by simpa using hn, fun j hj' => ?_⟩
  by_cases e : j = i
  · subst e
    refine ⟨_, by rw [Array.getElem?_setIfInBounds_self]; exact if_pos (by omega), ?_⟩
    have h1 : OwnB (wr.alloc (zeroBytes 128)) w.heap.size (.slice (some ⟨wr.heap.size, 0, none⟩) 128 128) (rep 128 0) := (own_zero wr).moreD h.turned.size
    exact h1.turnB ht (hz h1)
  · obtain ⟨v, h1, h2⟩ := hj j (by omega)
    have h3 : OwnB (wr.alloc (zeroBytes 128)) w.heap.size v (rep 128 0) := h2.turnB (Q := fun _ => False) (Turned.of_below hb) (fun _ _ => id)
    refine ⟨v, ?_, h3.turnB ht (hz h3)⟩
    rw [Array.getElem?_setIfInBounds_ne (by omega)]
    exact h1
theorem BlkAt.drew1 {w wr : World} {lb n i : Nat} (h : BlkAt w wr lb n i) : BlkAt w wr.drew lb n i :=
  ⟨h.turned.then_below (below_drew1 (Below.refl _ _)), h.row⟩
theorem BlkAt.start {w : World} {lb n : Nat} {C : Array Value} (h : Bk w lb 26 C) (hn : n ≤ C.size) : BlkAt w w lb n 0 :=
  ⟨Turned.refl _ _, C, h, hn, fun _ h => absurd h (by omega)⟩
theorem BlkAt.made {P : Nat → Prop} {w wr : World} {d lb n cap : Nat} {m1 m2 : Value} {dead : Bool} (hB : BlkAt w wr lb n n) (hd : Bk w d 182 #[.slice (some ⟨lb, 0, none⟩) n cap, m1, m2, .bool dead]) (hne : d ≠ lb) (h1 : 1 ≤ n) (h128 : n ≤ 128) (hcap : n ≤ cap) (hbig : cap ≤ 9223372036854775807) (hPd : P d) (hPl : P lb) :
    DskAt ((((wr.alloc (.map #[] 0)).alloc (.map #[] 0)).setCell ⟨d, 1, none⟩ (.map (some wr.heap.size))).setCell ⟨d, 2, none⟩ (.map (some (wr.heap.size + 1)))) (Wide P w) d (blankD n dead) ∧
    Turned P w ((((wr.alloc (.map #[] 0)).alloc (.map #[] 0)).setCell ⟨d, 1, none⟩ (.map (some wr.heap.size))).setCell ⟨d, 2, none⟩ (.map (some (wr.heap.size + 1)))) := by
  have hb2 : Below wr.heap.size wr ((wr.alloc (.map #[] 0)).alloc (.map #[] 0)) := (below_new wr _).trans (below_le (by simp) (below_new _ _))
  have hsz : (wr.alloc (.map #[] 0)).heap.size = wr.heap.size + 1 := by simp
  have hm1 : ((wr.alloc (.map #[] 0)).alloc (.map #[] 0)).ownsMap Tryz.prog 3 rawElem wr.heap.size 0 (.map []) := (World.ownsMap_made (H := Value) wr Tryz.prog 3 rawElem).alloc _
  have hm2 : ((wr.alloc (.map #[] 0)).alloc (.map #[] 0)).ownsMap Tryz.prog 3 (plainElem Tryz.prog 4) (wr.heap.size + 1) 0 (.map [] : DataW Unit) := by
    have h := World.ownsMap_made (H := Unit) (wr.alloc (.map #[] 0)) Tryz.prog 3 (plainElem Tryz.prog 4)
    rw [hsz] at h
    exact h
  have hD2 := (hd.turned hB.turned hne).ext hb2
  obtain ⟨C1, hC1, hn1, hj1⟩ := hB.row
  have hC2 := hC1.ext hb2
  have hdl := hd.lt
  have hs1 := hB.turned.size
  generalize (wr.alloc (.map #[] 0)).alloc (.map #[] 0) = W2 at hb2 hm1 hm2 hD2 hC2 ⊢
  have hg1 := grown_set W2 ⟨d, 1, none⟩ (.map (some wr.heap.size))
  have hg2 := grown_set (W2.setCell ⟨d, 1, none⟩ (.map (some wr.heap.size))) ⟨d, 2, none⟩ (.map (some (wr.heap.size + 1)))
  have ht : Turned (fun b => b = d) W2 _ := (Turned.of_grown (P := fun b => b = d) hg1 (fun k e => (Option.some.inj e).symm)).trans (Turned.of_grown (P := fun b => b = d) hg2 (fun k e => (Option.some.inj e).symm)) (fun _ _ h => h)
  have hD3 := (hD2.put 1 (.map (some wr.heap.size))).put 2 (.map (some (wr.heap.size + 1)))
  refine ⟨⟨lb, wr.heap.size, wr.heap.size + 1, cap, C1, .map [], ⟨blankD_ok h1 h128 dead, .inl hPd, hD3, hcap, hbig, ⟨hC2.turned ht (fun e => hne e.symm), .inl hPl, fun i hi => ?_⟩, (map_turned hm1 ht (fun e => ?_)).mono (Nat.zero_le _), .inr hs1, WtAt.empty (fun _ => rfl), ⟨⟨.map [], (map_turned hm2 ht (fun e => ?_)).mono (Nat.zero_le _), fun k h => (by cases h)⟩, .inr ?_⟩, by omega⟩⟩, ?_⟩
  · obtain ⟨v, h1, h2⟩ := hj1 i hi
    have h3 : OwnB W2 w.heap.size v (rep 128 0) := h2.turnB (Q := fun _ => False) (Turned.of_below hb2) (fun _ _ => id)
    exact ⟨v, h1, (h3.turnB ht (fun g hg e => by have := h3.own_lt g hg; omega)).low, fun g hg => .inr (h3.own_lt g hg)⟩
  · omega
  · omega
  · omega
  · exact ((hB.turned.more (Q := P) (fun i _ e => by rw [e]; exact hPl)).then_below hb2).wide (ht.more fun i _ e => .inl (by rw [e]; exact hPd))
set_option maxRecDepth 100000 in
set_option maxHeartbeats 2000000 in
theorem dskBlank_any {P : Nat → Prop} {d lb n cap : Nat} {m1 m2 : Value} {dead : Bool} {C : Array Value} {w : World} (hd : Bk w d 182 #[.slice (some ⟨lb, 0, none⟩) n cap, m1, m2, .bool dead]) (hC : Bk w lb 26 C) (hn : n ≤ C.size) (h1 : 1 ≤ n) (h128 : n ≤ 128) (hcap : n ≤ cap) (hbig : cap ≤ 9223372036854775807) (hPd : P d) (hPl : P lb) :
    Calls Tryz.prog 90 #[.pointer (some ⟨d, 0, none⟩)] w fun e w' => e = .returned (.tuple #[]) ∧ DskAt w' (Wide P w) d (blankD n dead) ∧ Turned P w w' := by
  have hmm := @run_makeMap Tryz.prog
  have c0 : w.cell? ⟨d, 0, none⟩ = some (.slice (some ⟨lb, 0, none⟩) n cap) := hd.cell 0
  have HS := Lib.hid (BlkAt.start hC hn)
  have HD := Lib.hid hd
  have hdl : d ≠ lb := fun e => by
    have a1 := hd
    have a2 := hC
    rw [← e] at a2
    unfold Bk at a1 a2
    rw [a1] at a2
    injection a2 with a2
    injection a2 with _ a3
    exact absurd a3 (by decide)
  have HNE := Lib.hid hdl
  clear hd hC hdl
  go_enter Tryz.func90, Tryz.ntmps90
  go_wp2_with fail
  go_loopw [8] (fun i wr => ∃ k : Nat, k ≤ n ∧ i = .int .i64 k ∧ Hid (BlkAt w wr lb n k)) (fun i _ => n - (intOf i).toNat)
  case atStart => exact ⟨0, Nat.zero_le _, rfl, HS⟩
  case round =>
    obtain ⟨k, hk, rfl, hB⟩ := hrel
    by_cases hlt : k < n
    · have hi : (k : Int) < n := by omega
      have hbn := below_new wr (zeroBytes 128)
      have d0 : (wr.alloc (zeroBytes 128)).cell? ⟨d, 0, none⟩ = some (.slice (some ⟨lb, 0, none⟩) n cap) := ((HD.out.turned hB.out.turned HNE.out).ext hbn).cell 0
      have d00 : wr.cell? ⟨d, 0, none⟩ = some (.slice (some ⟨lb, 0, none⟩) n cap) := (HD.out.turned hB.out.turned HNE.out).cell 0
      have hmk := mk_bytes 128 128 rfl (by omega)
      have d1 : (wr.alloc (zeroBytes 128)).frozen? ⟨lb, k, none⟩ = false := by
        obtain ⟨_, h, _⟩ := hB.out.row
        exact (h.ext hbn).thaw k
      obtain ⟨u, d2⟩ : ∃ u, (wr.alloc (zeroBytes 128)).cell? ⟨lb, k, none⟩ = some u := by
        obtain ⟨C1, h, h2, _⟩ := hB.out.row
        exact ⟨C1[k]'(by omega), by rw [(h.ext hbn).cell k]; exact Array.getElem?_eq_getElem _⟩
      have HN := Lib.hid (hB.out.step hlt)
      have HNx : Hid (BlkAt w (((wr.alloc (zeroBytes 128)).setCell ⟨lb, k, none⟩ (.slice (some ⟨wr.heap.size, 0, none⟩) 128 128)).drew) lb n (k + 1)) := HN.out.drew1
      clear hbn
      go_wp2_with fail
      go_region
      all_goals
        go_wp2_with fail
        first
          | go_roundw
            case rel => exact ⟨k + 1, by omega, by go_num, HNx⟩
            case measure => simp [intOf]; omega
          | exact ⟨⟨k + 1, by omega, by go_num, HNx⟩, by simp [intOf]; omega⟩
    · have hk1 : k = n := by omega
      subst hk1
      have hi : ¬ (k : Int) < k := by omega
      have hb2 : Below wr.heap.size wr ((wr.alloc (.map #[] 0)).alloc (.map #[] 0)) := (below_new wr _).trans (below_le (by simp) (below_new _ _))
      have hD2 := ((HD.out.turned hB.out.turned HNE.out).ext hb2)
      have e1 : ((wr.alloc (.map #[] 0)).alloc (.map #[] 0)).cell? ⟨d, 1, none⟩ = some m1 := hD2.cell 1
      have e2 : ((wr.alloc (.map #[] 0)).alloc (.map #[] 0)).cell? ⟨d, 2, none⟩ = some m2 := hD2.cell 2
      have e3 : ((wr.alloc (.map #[] 0)).alloc (.map #[] 0)).frozen? ⟨d, 1, none⟩ = false := hD2.thaw 1
      have e4 : ((wr.alloc (.map #[] 0)).alloc (.map #[] 0)).frozen? ⟨d, 2, none⟩ = false := hD2.thaw 2
      clear hb2 hD2
      go_wp2_with fail
      go_end0
      exact ⟨rfl, hB.out.made HD.out HNE.out h1 h128 hcap hbig hPd hPl⟩
end Go.Proofs.YtkdlofgfkfhofaaGreatDoor

/-
  disk: New.
-/
namespace Go.Proofs.YtkdlofgfkfhofaaGreatDoor
open Go.RowKit Go.Maps

theorem info_bs : (Tryz.prog.info? 26).map (fun i => (i.zero, i.size, i.bytes)) = some (some (.slice none 0 0), 1, 24) := by kernel_rfl
theorem mk_secs (n : Nat) (hn : n ≤ 128) (w : World) :
    (Instr.makeSlice 58 (.int .i64 (n : Int)) (.int .i64 (n : Int))).run Tryz.prog w = .ok (.slice (some ⟨w.heap.size, 0, none⟩) n n) (w.alloc (.cells (madeCells #[.slice none 0 0] n) 26)) :=
  run_make_row' 58 26 (.slice none 0 0) 24 Tryz.underlying58 info_bs rfl .i64 .i64 n (by omega) (by omega) w
theorem mk_secs2 (n : Nat) (hn : n ≤ 128) (w : World) : ∃ C : Array Value,
    (Instr.makeSlice 58 (.int .i64 (n : Int)) (.int .i64 (n : Int))).run Tryz.prog w = .ok (.slice (some ⟨w.heap.size, 0, none⟩) n n) (w.alloc (.cells C 26)) ∧ n ≤ C.size :=
  ⟨_, mk_secs n hn w, by simp [madeCells]⟩
set_option maxRecDepth 100000 in
set_option maxHeartbeats 2000000 in
/-- disk.New: blank, of new blocks -/
theorem dskNew_any (n : Nat) (h1 : 1 ≤ n) (h128 : n ≤ 128) (w : World) :
    Calls Tryz.prog 50 #[.int .i64 (n : Int)] w fun e w' => ∃ d, e = .returned (.tuple #[.pointer (some ⟨d, 0, none⟩), .nilIface]) ∧ DskAt w' (fun i => w.heap.size ≤ i) d (blankD n false) ∧ Below w.heap.size w w' := by
  obtain ⟨C, hmk, hC⟩ := mk_secs2 n h128 w
  have q1 : ¬ (n : Int) < 1 := by omega
  have q2 : ¬ (128 : Int) < n := by omega
  go_enter Tryz.func50, Tryz.ntmps50
  go_upto_region 3 with fail
  go_upto_region 4 with fail
  have hsz : (w.alloc (.cells C 26)).heap.size = w.heap.size + 1 := by simp
  have hk1 : Bk ((w.alloc (.cells C 26)).alloc (.cells #[.slice (some ⟨w.heap.size, 0, none⟩) n n, .map none, .map none, .bool false] 182)) w.heap.size 26 C := (Bk.made w _ C).ext (below_new _ _)
  have hk2 := Bk.made (w.alloc (.cells C 26)) 182 #[.slice (some ⟨w.heap.size, 0, none⟩) n n, .map none, .map none, .bool false]
  rw [hsz] at hk2
  have hb : Below w.heap.size w ((w.alloc (.cells C 26)).alloc (.cells #[.slice (some ⟨w.heap.size, 0, none⟩) n n, .map none, .map none, .bool false] 182)) := (below_new w _).trans (below_le (by simp) (below_new _ _))
  generalize (w.alloc (.cells C 26)).alloc (.cells #[.slice (some ⟨w.heap.size, 0, none⟩) n n, .map none, .map none, .bool false] 182) = W at hk1 hk2 hb ⊢
  have HB := Lib.hid hb
  have HK := Lib.hid (dskBlank_any (P := fun i => w.heap.size ≤ i) hk2 hk1 hC h1 h128 (Nat.le_refl _) (by omega) (Nat.le_succ _) (Nat.le_refl _))
  clear hb hk1 hk2 hmk hC
  go_wp2_with (first | (go_at_call 90; (with_reducible refine HK.out.mono ?_); rintro er w4 ⟨rfl, hd4, ht4⟩; have HD4 := Lib.hid hd4; have HT4 := Lib.hid ht4; clear hd4 ht4) | fail)
  go_ret2
  exact ⟨_, rfl, HD4.out.more (fun i _ h => h.elim id (Nat.le_trans HB.out.size)), HT4.out.below HB.out HB.out.size (fun i h => h)⟩
end Go.Proofs.YtkdlofgfkfhofaaGreatDoor
