import Derived.Test.YtkdlofgfkfhofaaGreatDoorL25hI
namespace Go.Proofs.YtkdlofgfkfhofaaGreatDoor
open Go.RowKit Go.Maps

theorem ho_head (m : Nat) : [UInt8.ofNat m, UInt8.ofNat (m / 256)] ++ List.replicate m 0 = frU (List.replicate m 0) := by
  unfold frU
  simp
theorem hp5 : putA (askL 5) = [1, 6, 5, 0, 0, 0] := by decide
theorem hp6 : putA (askL 6) = [1, 6, 6, 0, 0, 0] := by decide
theorem hf5 : frA (askL 5) = [6, 0, 1, 6, 5, 0, 0, 0] := by unfold frA; rw [hp5]; rfl
theorem hf6 : frA (askL 6) = [6, 0, 1, 6, 6, 0, 0, 0] := by unfold frA; rw [hp6]; rfl
theorem hoX_fr (u : UInt8) : [6, 0, u, 6, 5, 0, 0, 0] = frU (hoX u) := by unfold frU hoX; simp
theorem ho_small {X : List UInt8} (h : X.length < 256) : frU X = [UInt8.ofNat X.length, 0] ++ X := by
  unfold frU
  rw [Nat.div_eq_of_lt h]
  rfl
set_option maxRecDepth 100000 in
theorem ho_broker {w : World} {sv b : Nat} {cs : Nat → CV} (h : Bk w sv 81 (svA b cs)) : Calls Tryz.prog 13 #[.pointer (some ⟨sv, 0, none⟩)] w fun e w' => e = .returned (.pointer (some ⟨b, 0, none⟩)) ∧ w = w' := by
  have c0 : w.cell? ⟨sv, 0, none⟩ = some (.pointer (some ⟨b, 0, none⟩)) := h.cell 0
  clear h
  go_enter Tryz.func13, Tryz.ntmps13
  go_wp2_with fail
  go_ret
  exact ⟨rfl, rfl⟩
theorem Hos.el {w0 w : World} {sv b r t g s tb gr : Nat} {me : Value} {X : List UInt8} {es : List Ev} (h : Hos w0 w sv b r t g s tb gr me X es) : ErrLaid w := by
  obtain ⟨⟨ws, v, l, p, last, h1, _⟩, _⟩ := h
  exact h1.el
attribute [local go_sem ↓] sliced_past ldCf_eq stCf_eq
attribute [local go_sem] pastA_zero
set_option maxRecDepth 100000 in
set_option maxHeartbeats 8000000 in
theorem serverHostile_any (A : Option Addr) (n c : Nat) (bs : List UInt8) (u : UInt8) (size : Int) {w : World} (hz1 : -9223372036854775808 ≤ size ∧ size ≤ 9223372036854775807) (hr : RdB w A n c bs) (hL : ErrLaid w) :
    Calls Tryz.prog 5 #[.slice A n c, .int .u8 (w8 u), .int .i64 size] w fun e w' => e = .returned (.bool true) ∧ Below w.heap.size w w' := by
  have HNw : Hid (∀ v, Below w.heap.size w v → Calls Tryz.prog 8 #[.agg #[.int .i64 7, .int .i64 1, .int .i64 2, .int .i64 4, .int .i64 1]] v fun e w' => ∃ sv b r t g s tb gr me, e = .returned (.pointer (some ⟨sv, 0, none⟩)) ∧ SvAt w' sv b r t g s tb gr me (.slice none 0 0) 0 cf7h zCs ∧ SvL sv b t g s tb ∧ v.heap.size ≤ b ∧ (∃ o W, StoAt w' o r 2 6 W ∧ o b = none ∧ o sv = none) ∧ Below v.heap.size v w') := fun v hv => playNew_any 7 1 2 4 1 6 rfl (by omega) (by omega) (by omega) (by omega) (by omega) (at_one (by omega) (by omega) (by omega) (by omega) (by omega) (by omega)) (by omega) (hL.below hv)
  have HWs := Lib.hid (fun v => within_any size 0 300 v (by omega) (by omega) (by omega) hz1.1 hz1.2)
  have hm1 := within_in size 0 300 (by omega)
  generalize within size 0 300 = ms at HWs hm1
  obtain ⟨m, hm⟩ : ∃ m : Nat, 1025 + ms = (m : Int) := ⟨(1025 + ms).toNat, by omega⟩
  have hm2 : 1025 ≤ m ∧ m ≤ 1325 := by omega
  have HM := Lib.hid hm
  have hcap := hr.cap
  have hbig := hr.big
  obtain ⟨mx, hmin, hmn, hm60⟩ := min_int n 60 (by omega)
  have hri : (mx : Int) ≤ (n : Int) := by omega
  have hrj : (n : Int) ≤ (c : Int) := by omega
  have hrk : (mx : Int) ≤ (c : Int) := by omega
  obtain ⟨X, hX⟩ : ∃ X, bs.take mx = X := ⟨_, rfl⟩
  have hrX := hr.upto mx hmn
  rw [hX] at hrX
  have hXl : X.length = mx := hrX.len
  have HXl := Lib.hid hXl
  have hX60 : X.length ≤ 60 := by omega
  have HX60 := Lib.hid hX60
  have HR := Lib.hid hrX
  have HLd := Lib.hid hL
  have HF5 : Hid (∀ v : World, Calls Tryz.prog 9 #[.agg #[.int .i64 5, .int .i64 6, .string ⟨#[]⟩, .string ⟨#[]⟩, .int .i64 0, .int .i64 0, .int .i64 0, .int .i64 0, .int .i64 0, .int .i64 0, .int .i64 0, .int .i64 0, .int .i64 0, .slice none 0 0]] v fun er w' => ∃ A' c', er = .returned (.slice A' 8 c') ∧ OwnB w' v.heap.size (.slice A' 8 c') [6, 0, 1, 6, 5, 0, 0, 0] ∧ Below v.heap.size v w') := fun v => by
    have h := playFrame_any (askL 5) none 0 0 v (RdT.nil v)
    rw [hf5, hp5] at h
    exact h
  have HF6 : Hid (∀ v : World, Calls Tryz.prog 9 #[.agg #[.int .i64 6, .int .i64 6, .string ⟨#[]⟩, .string ⟨#[]⟩, .int .i64 0, .int .i64 0, .int .i64 0, .int .i64 0, .int .i64 0, .int .i64 0, .int .i64 0, .int .i64 0, .int .i64 0, .slice none 0 0]] v fun er w' => ∃ A' c', er = .returned (.slice A' 8 c') ∧ OwnB w' v.heap.size (.slice A' 8 c') [6, 0, 1, 6, 6, 0, 0, 0] ∧ Below v.heap.size v w') := fun v => by
    have h := playFrame_any (askL 6) none 0 0 v (RdT.nil v)
    rw [hf6, hp6] at h
    exact h
  have hst0 := stCf_new w w.heap.size rfl #[.int .i64 0, .int .i64 0, .int .i64 0, .int .i64 0, .int .i64 0] rfl 7 1 2 4 1
  have hld0 := ldCf_bk (Bk.made w 25 #[.int .i64 7, .int .i64 1, .int .i64 2, .int .i64 4, .int .i64 1])
  have HB0 := Lib.hid (below_new w (.cells #[.int .i64 7, .int .i64 1, .int .i64 2, .int .i64 4, .int .i64 1] 25))
  clear hX hrX hXl hX60 hL hr hz1 hm hm1
  go_enter Tryz.func5, Tryz.ntmps5
  go_wp2_with fail
  with_reducible refine (HNw.out _ HB0.out).mono ?_
  rintro er w1 ⟨sv, b, r, t, g, s, tb, gr, me, rfl, hS1, hL1, hb1, ⟨o, W, hSt1, ho1, ho2⟩, hbe1⟩
  have hbw : w.heap.size ≤ b := Nat.le_trans HB0.out.size hb1
  have hsw : w.heap.size ≤ sv := by have := hL1.b; omega
  have HB1 := Lib.hid (HB0.out.trans (below_le HB0.out.size hbe1))
  have HS1 := Lib.hid hS1
  have HL1 := Lib.hid hL1
  have HSt1 := Lib.hid hSt1
  have HBk := Lib.hid (ho_broker hS1.bk)
  clear hst0 hld0 hbe1 hS1 hL1 hSt1 HNw HB0 hb1
  have hnh := below_new w1 (.cells #[.int .u8 (mx : Int), .int .u8 0] 5)
  have HOh : Hid (OwnB (w1.alloc (.cells #[.int .u8 (mx : Int), .int .u8 0] 5)) w1.heap.size (.slice (some ⟨w1.heap.size, 0, none⟩) 2 2) [UInt8.ofNat mx, 0]) := by
    have e : (#[.int .u8 (mx : Int), .int .u8 0] : Array Value) = (bvs [UInt8.ofNat mx, 0]).toArray := by
      show _ = (#[.int .u8 (w8 (UInt8.ofNat mx)), .int .u8 0] : Array Value)
      rw [w8_ofNat, show (mx : Int) % 256 = mx by omega]
    show OwnB _ _ _ _
    rw [e]
    exact ((show Bb (w1.alloc (.cells (bvs [UInt8.ofNat mx, 0]).toArray 5)) w1.heap.size 5 [UInt8.ofNat mx, 0] from Bk.made w1 5 _).owns (n := 2) rfl (by omega)).own (Nat.le_refl _) 2 rfl
  have HRh := Lib.hid ((HR.out.ext HB1.out).ext hnh)
  have HBh := Lib.hid hnh
  obtain ⟨nb, hnb⟩ : ∃ nb, nb = 2 + mx := ⟨_, rfl⟩
  have HNb := Lib.hid hnb
  clear hnh hnb
  go_wp2_with (first | (go_at_call 13; go_loud (with_reducible refine HBk.out.mono ?_); rintro er w2 ⟨rfl, rfl⟩) | (at_builtin; go_loud (refine wpList_append_bytes rfl (.tmp 36) (.tmp 37) rfl w1.heap.size w1 _ _ rfl HOh.out A mx c _ rfl HRh.out (by simp; omega) HBh.out HBh.out.size nb HNb.out ?_); intro A2 c2 w2 ho2 hb2 hs2) | fail)
  have HO2 : Hid (RdB w2 A2 nb c2 (frU X)) := by
    show RdB _ _ _ _ _
    rw [ho_small (by have := HX60.out; omega), HXl.out]
    exact ho2.out.rd
  have hD1 := hos_do1 (HS1.out.ext hb2) HL1.out (HSt1.out.ext hb2) ho1 ‹o sv = none› HX60.out HO2.out
  have HD1 := Lib.hid hD1
  have HB2 := Lib.hid (HB1.out.trans (below_le HB1.out.size hb2))
  clear ho2 hb2 hs2 hD1 HOh HRh HBh HNb HSt1 HS1
  with_reducible refine HD1.out.mono ?_
  rintro er w3 ⟨rfl, es, hes1, hes2, hH3⟩
  have HB3 := Lib.hid (hH3.tu.below HB2.out HB2.out.size (fun i hi => by rcases hi with rfl | rfl <;> omega))
  have HR3 := Lib.hid (HR.out.ext HB3.out)
  have HH3 := Lib.hid hH3
  have HE := Lib.hid hes2
  clear hH3 hes2 HD1 HO2
  go_upto_region 8 with fail
  cases hg : getA X
  case' error k =>
    obtain ⟨co, ke⟩ := k
    obtain rfl := HE.out ⟨co, ke, hg⟩
    have hev : evR (.frame X) = (co, ke) := by show (match getA X with | .error k => k | .ok a => (a.corr, servE a.kind)) = _; rw [hg]
    have HEv := Lib.hid hev
    have HGet := Lib.hid (aget_err A mx c X w3 HR3.out (by omega) co ke hg)
    clear hev hg
    go_wp2_with (first | (go_at_call 14; go_loud ((with_reducible refine HGet.out.mono ?_); rintro er w5 ⟨A5, n5, c5, v5, d5, rfl, _, hd5, he5, hb5⟩; have hne := he5.neq; have hgd := he5.gneq)) | fail)
    have hba := hb5.trans (below_le hb5.size (below_new w5 (.cells #[.int .i64 co, .int .i64 0, .string ⟨#[]⟩, .string ⟨#[]⟩, .int .i64 0, .int .i64 0, .int .i64 0, .int .i64 0, .int .i64 0, .int .i64 0, .int .i64 0, .int .i64 0, .int .i64 0, .slice A5 n5 c5] 32)))
    generalize w5.alloc (.cells #[.int .i64 co, .int .i64 0, .string ⟨#[]⟩, .string ⟨#[]⟩, .int .i64 0, .int .i64 0, .int .i64 0, .int .i64 0, .int .i64 0, .int .i64 0, .int .i64 0, .int .i64 0, .int .i64 0, .slice A5 n5 c5] 32) = wa at hba ⊢
    have HOn := Lib.hid (hos_one (HH3.out.ext hba) HL1.out 1 rfl (by omega))
    clear hba hb5
    with_reducible refine HOn.out.mono ?_
    rintro er w7 ⟨A7, c7, Ls, rfl, hL7, hK7, hp7, hH7, hT7⟩
    obtain ⟨g7, hg7, d0, d1, dx⟩ := hL7.get hK7 (k := 0) (e := .frame X) rfl
    clear d0 dx
    rw [HEv.out] at d1
    subst hg7
    have hcp := hK7.cap
    have hcb := hK7.big
    replace d1 : w7.cell? ⟨g7, 1, none⟩ = some (.int .i64 ke) := d1
    have HEl : Hid (ErrLaid w7) := hH7.el
    have HH7 := Lib.hid hH7
    have hlt7 := cell_lt d1
    have FS : Hid (∀ v, Below w7.heap.size w7 v → v.cell? ⟨g7, 1, none⟩ = some (.int .i64 ke)) := fun v hv => (hv.cell hlt7).trans d1
    have B0 : Hid (Below w7.heap.size w7 w7.drew) := below_drew1 (Below.refl _ _)
    have HKd := Lib.hid (kind_err3 he5 hd5 w7.drew (HEl.out.below B0.out))
    have hke : (ke != ke) = false := by simp
    clear hL7 hK7 hp7 hH7 hT7 HOn d1 hlt7
    go_wp2_with fail
    go_region_held3 (fun v => v.cell? ⟨g7, 1, none⟩ = some (.int .i64 ke)) (first | exact FS.out _ B0.out | exact FS.out _ B6.out | fail) (first | (go_at_call 15; go_loud ((with_reducible refine HKd.out.mono ?_); rintro er w6 ⟨rfl, hb6⟩; have B6 := Lib.hid (B0.out.trans (below_le B0.out.size hb6)); clear hb6)) | fail)
    go_upto_region 12 with fail
    have hH := Lib.hid (HH7.out.ext B6.out)
    clear HH7 B6 B0 FS HKd HEl hke he5 hd5 hne hgd HEv HGet hcp hcb
    generalize w6 = wc at hH ⊢
  case' ok a =>
    have HGet := Lib.hid (aget_ok A mx c X w3 HR3.out (by omega) a hg)
    obtain ⟨q, hq⟩ : ∃ q, es.length = q := ⟨_, rfl⟩
    clear hg
    go_wp2_with (first | (go_at_call 14; go_loud ((with_reducible refine HGet.out.mono ?_); rintro er w5 ⟨A5, n5, c5, rfl, _, hb5, _⟩)) | fail)
    have hba := hb5.trans (below_le hb5.size (below_new w5 (.cells (askC a.corr a.kind a.topic a.group a.part a.parts a.first a.off a.most a.time a.bat.time a.bat.prod a.bat.seq A5 n5 c5) 32)))
    generalize w5.alloc (.cells (askC a.corr a.kind a.topic a.group a.part a.parts a.first a.off a.most a.time a.bat.time a.bat.prod a.bat.seq A5 n5 c5) 32) = wa at hba ⊢
    have HOn := Lib.hid (hos_one (HH3.out.ext hba) HL1.out q hq (by omega))
    clear hba hb5 hq
    with_reducible refine HOn.out.mono ?_
    rintro er w7 ⟨A7, c7, Ls, rfl, hL7, hK7, hp7, hH7, hT7⟩
    have HH7 := Lib.hid hH7
    clear hL7 hK7 hp7 hH7 hT7 HOn
    go_wp2_with fail
    go_quiet (fail)
    go_upto_region 12 with fail
    have hH := Lib.hid (HH7.out.ext (⟨rfl, rfl, rfl, Nat.le_refl _, fun _ _ => rfl⟩ : Below w7.heap.size w7 (w7.drewN nq)))
    clear HH7 HGet
    generalize w7.drewN nq = wc at hH ⊢
  all_goals
    have HBc := Lib.hid (hH.out.tu.below HB2.out HB2.out.size (fun i hi => by rcases hi with rfl | rfl <;> omega))
    have HMm := HM.out
    clear HH3 HB3 HR3 HE
    go_wp2_with fail
    with_reducible refine (HWs.out _).mono ?_
    rintro er w4 ⟨rfl, rfl⟩
    have hn6 := below_new wc (.cells #[.int .u8 ((m : Int) % 256), .int .u8 ((m : Int) / 256)] 5)
    have e6 : (#[.int .u8 ((m : Int) % 256), .int .u8 ((m : Int) / 256)] : Array Value) = #[.int .u8 (w8 (UInt8.ofNat m)), .int .u8 (w8 (UInt8.ofNat (m / 256)))] := by
      rw [w8_ofNat, w8_ofNat, show ((m / 256 : Nat) : Int) % 256 = (m : Int) / 256 by omega]
    have hk6 : Bk (wc.alloc (.cells #[.int .u8 ((m : Int) % 256), .int .u8 ((m : Int) / 256)] 5)) wc.heap.size 5 #[.int .u8 (w8 (UInt8.ofNat m)), .int .u8 (w8 (UInt8.ofNat (m / 256)))] := by
      rw [← e6]
      exact Bk.made wc 5 #[.int .u8 ((m : Int) % 256), .int .u8 ((m : Int) / 256)]
    obtain ⟨c7, w7, hrun7, ho7, hb7⟩ := append_zeros2 hk6 hn6.size m (by omega) (by omega)
    rw [ho_head] at ho7
    have hzl : (frU (List.replicate m 0)).length = 2 + m := by rw [frU_len, List.length_replicate]
    obtain ⟨Z, hZ⟩ : ∃ Z, frU (List.replicate m 0) = Z := ⟨_, rfl⟩
    rw [hZ] at ho7 hzl
    have HZ := Lib.hid hZ
    have HZl := Lib.hid hzl
    have HB7 := Lib.hid (hn6.trans (below_le hn6.size hb7))
    have HO7 := Lib.hid ho7
    clear hn6 hk6 ho7 hb7 e6 hZ hzl
    generalize (wc.alloc (.cells #[.int .u8 ((m : Int) % 256), .int .u8 ((m : Int) / 256)] 5)).heap.size = g7 at *
    go_wp2_with (first | (at_builtin; go_loud (refine wpList_make rfl _ _ rfl rfl _ _ rfl rfl _ _ hrun7 ?_)) | fail)
    clear hrun7
    with_reducible refine (HF5.out _).mono ?_
    rintro er wf ⟨A8, c8, rfl, ho8, hb8⟩
    rcases OwnB.open_ ho8 with ⟨_, hnil⟩ | ⟨g8, cap8, hv8, hg8, hat⟩
    · cases hnil
    injection hv8 with hv8 _ hv9
    subst hv8 hv9
    obtain ⟨x2, _, hc2⟩ := hat.get (i := 2) (by simp)
    have hth := hat.thaw 2
    have hA9 := hat.put 2 u
    have hr9 := hA9.whole 8 c8 rfl hA9.room hA9.big
    have hTf : Turned (fun j => j = g8) wf (wf.setCell ⟨g8, 2, none⟩ (.int .u8 (w8 u))) := Turned.of_grown (grown_set wf ⟨g8, 2, none⟩ (.int .u8 (w8 u))) (fun _ e => (Option.some.inj e).symm)
    have hg7l := (World.ownsRow.lt HO7.out g7 rfl).2
    have hO9 := own_turned (own_turned (P := fun _ => False) HO7.out (Turned.of_below hb8) (fun _ _ => id)) hTf (fun j hj e => by
      injection hj with hj
      have hj : g7 = j := hj
      omega)
    have hb9 := HB7.out.trans (below_le HB7.out.size hb8)
    have hB9 := below_grown hb9 hb9.size (grown_set wf ⟨g8, 2, none⟩ (.int .u8 (w8 u))) (Nat.le_trans HB7.out.size hg8)
    have HR9 : Hid (RdB (wf.setCell ⟨g8, 2, none⟩ (.int .u8 (w8 u))) (some ⟨g8, 0, none⟩) 8 c8 (frU (hoX u))) := by
      show RdB _ _ _ _ _
      rw [← hoX_fr]
      exact hr9
    have HO9 := Lib.hid hO9
    have HB9 := Lib.hid hB9
    clear ho8 hat hA9 hr9 hTf hg7l hO9 hb9 hB9 hb8 HO7 HB7
    go_upto_region 16 with fail
    generalize wf.setCell ⟨g8, 2, none⟩ (.int .u8 (w8 u)) = wg at HR9 HO9 HB9 ⊢
    clear hc2 hth
    obtain ⟨N, hN⟩ : ∃ N, N = 2 + m + 8 := ⟨_, rfl⟩
    have HN : Hid (N = Z.length + 8) := by show _ = _; rw [HZl.out, hN]
    have HNs : Hid (Z.length + 8 ≤ 140737488355328) := by show _ ≤ _; rw [HZl.out]; omega
    clear hN
    go_wp2_with (first | (at_builtin; go_loud (refine wpList_append_bytes rfl (.tmp 81) (.tmp 82) rfl wc.heap.size wc _ Z rfl HO9.out (some ⟨g8, 0, none⟩) 8 c8 _ rfl HR9.out HNs.out HB9.out HB9.out.size N HN.out ?_); intro A10 c10 w10 ho10 hb10 hs10) | fail)
    have hR10 : RdB w10 A10 N c10 (hoT m u) := by
      unfold hoT
      rw [HZ.out]
      exact ho10.out.rd
    have HD2 := Lib.hid (hos_do2 (hH.out.ext hb10) HL1.out HX60.out (by omega) (by omega) hR10)
    clear hR10 ho10 hb10 hs10 HR9 HO9 HB9 HZ HZl HN HNs hH
    with_reducible refine HD2.out.mono ?_
    rintro er w11 ⟨rfl, hH11⟩
    have HOn := Lib.hid (hot_one hH11 HL1.out 2 rfl (by omega))
    clear hH11 HD2
    go_wp2_with fail
    with_reducible refine HOn.out.mono ?_
    rintro er w12 ⟨A12, c12, Ls, rfl, hL12, hK12, hp12, hH12, hT12⟩
    obtain ⟨ga, hga, d0, d1, dx⟩ := hL12.get hK12 (k := 0) (e := .big) rfl
    rw [show evR .big = (0, 11) from rfl] at d0 d1
    obtain ⟨gb, hgb, d6, d7, dy⟩ := hL12.get hK12 (k := 1) (e := .frame (hoX u)) rfl
    rw [hoX_ev] at d6 d7
    clear d0 dx dy
    rw [hga] at hgb
    injection hgb with hgb
    injection hgb with hgb
    subst hgb hga
    have hcp := hK12.cap
    have hcb := hK12.big
    replace d1 : w12.cell? ⟨ga, 1, none⟩ = some (.int .i64 11) := d1
    replace d6 : w12.cell? ⟨ga, 6, none⟩ = some (.int .i64 5) := d6
    replace d7 : w12.cell? ⟨ga, 7, none⟩ = some (.int .i64 (if w8 u = 1 then 0 else 14)) := d7
    have HH12 := Lib.hid hH12
    clear hL12 hK12 hp12 hH12 hT12 HOn HMm
    go_upto_region 18 with fail
    by_cases hu : w8 u = 1
    case' pos =>
      rw [if_pos hu] at d7
      have hu1 : (w8 u == 1) = true := by rw [hu]; rfl
      have hu2 : (w8 u != 1) = false := by rw [hu]; rfl
      clear hu
      go_upto_region 20 with fail
    case' neg =>
      rw [if_neg hu] at d7
      have hu1 : (w8 u == 1) = false := by simpa using hu
      have hu2 : (w8 u != 1) = true := by simpa using hu
      clear hu
      go_upto_region 20 with fail
    all_goals
      clear d1 d6 d7
      go_wp2_with fail
      with_reducible refine (HF6.out _).mono ?_
      rintro er w13 ⟨A13, c13, rfl, ho13, hb13⟩
      have hR13 := ho13.rd
      rw [← hf6] at hR13
      have HD3 := Lib.hid (hot_do (HH12.out.ext hb13) HL1.out hR13)
      clear ho13 hb13 hR13 HH12
      go_wp2_with fail
      with_reducible refine HD3.out.mono ?_
      rintro er w14 ⟨rfl, hH14⟩
      have HOu := Lib.hid (hou_one hH14 HL1.out 1 rfl (by omega))
      clear hH14 HD3
      go_wp2_with fail
      with_reducible refine HOu.out.mono ?_
      rintro er w15 ⟨A15, c15, Ls, rfl, hL15, hK15, hp15, hT15⟩
      obtain ⟨gc, hgc, e0, e1, A4, c4, e4⟩ := hL15.get hK15 (k := 0) (e := .frame (putA (askL 6))) rfl
      rw [ho6_ev] at e0 e1
      subst hgc
      have hcp5 := hK15.cap
      have hcb5 := hK15.big
      replace e0 : w15.cell? ⟨gc, 0, none⟩ = some (.int .i64 6) := e0
      replace e1 : w15.cell? ⟨gc, 1, none⟩ = some (.int .i64 0) := e1
      replace e4 : w15.cell? ⟨gc, 4, none⟩ = some (.slice A4 0 c4) := e4
      have HBz := Lib.hid (hT15.below HB2.out HB2.out.size (fun i hi => by rcases hi with rfl | rfl <;> omega))
      have HRn := Lib.hid (serverRuns_any (HLd.out.below HBz.out))
      clear hL15 hK15 hp15 hT15 HOu
      go_wp2_with fail
      with_reducible refine HRn.out.mono ?_
      rintro er w16 ⟨rfl, hb16⟩
      go_wp2_with fail
      go_ret
      exact ⟨rfl, HBz.out.trans (below_le HBz.out.size hb16)⟩
end Go.Proofs.YtkdlofgfkfhofaaGreatDoor
