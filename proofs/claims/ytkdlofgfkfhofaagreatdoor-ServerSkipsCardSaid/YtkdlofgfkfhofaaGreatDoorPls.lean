import Derived.Test.YtkdlofgfkfhofaaGreatDoorP42
/-
  stavelaw25: ServerSkips.
-/
namespace Go.Proofs.YtkdlofgfkfhofaaGreatDoor
open Go.RowKit Go.Maps

abbrev cf7a : CfgM := ⟨(7 : Nat), (1 : Nat), (1 : Nat), (2 : Nat), (1 : Nat)⟩
theorem sk_head (m : Nat) : [UInt8.ofNat m, UInt8.ofNat (m / 256)] ++ List.replicate m 0 = skT m 0 := by
  unfold skT skF frU
  simp
attribute [local go_sem ↓] sliced_past
attribute [local go_sem] pastA_zero
set_option maxRecDepth 100000 in
set_option maxHeartbeats 8000000 in
theorem serverSkips_any (size : Int) (A : Option Addr) (n c : Nat) (cuts : List Int) (num : Int) {w : World} (hz1 : -9223372036854775808 ≤ size ∧ size ≤ 9223372036854775807) (hz2 : -9223372036854775808 ≤ num ∧ num ≤ 9223372036854775807) (hr : RdI w A n c cuts) (hL : ErrLaid w) :
    Calls Tryz.prog 4 #[.int .i64 size, .slice A n c, .int .i64 num] w fun e w' => e = .returned (.bool true) ∧ Below w.heap.size w w' := by
  have HNw : Hid (Calls Tryz.prog 8 #[.agg #[.int .i64 7, .int .i64 1, .int .i64 1, .int .i64 2, .int .i64 1]] w fun e w' => ∃ sv b r t g s tb gr me, e = .returned (.pointer (some ⟨sv, 0, none⟩)) ∧ SvAt w' sv b r t g s tb gr me (.slice none 0 0) 0 cf7a zCs ∧ SvL sv b t g s tb ∧ w.heap.size ≤ b ∧ (∃ o W, StoAt w' o r 1 4 W ∧ o b = none ∧ o sv = none) ∧ Below w.heap.size w w') := playNew_any 7 1 1 2 1 4 rfl (by omega) (by omega) (by omega) (by omega) (by omega) (at_one (by omega) (by omega) (by omega) (by omega) (by omega) (by omega)) (by omega) hL
  have HWs := Lib.hid (fun v => within_any size 0 500 v (by omega) (by omega) (by omega) hz1.1 hz1.2)
  have HWn := Lib.hid (fun v => within_any num 1 4 v (by omega) (by omega) (by omega) hz2.1 hz2.2)
  obtain ⟨ms, hms⟩ : ∃ ms, within size 0 500 = ms := ⟨_, rfl⟩
  obtain ⟨k0, hk0⟩ : ∃ k0, within num 1 4 = k0 := ⟨_, rfl⟩
  have hm1 := within_in size 0 500 (by omega)
  have hk1 := within_in num 1 4 (by omega)
  rw [hms] at HWs hm1
  rw [hk0] at HWn hk1
  obtain ⟨k, rfl⟩ : ∃ k : Nat, k0 = (k : Int) := ⟨k0.toNat, by omega⟩
  obtain ⟨m, hm⟩ : ∃ m : Nat, 1025 + ms = (m : Int) := ⟨(1025 + ms).toNat, by omega⟩
  have HLd := Lib.hid hL
  have HR := Lib.hid hr
  have hm2 : 1025 ≤ m ∧ m ≤ 1525 := by omega
  have hk2 : 1 ≤ k ∧ k ≤ 4 := by omega
  have HM := Lib.hid hm
  clear hms hk0 hm1 hk1 hL hr hz1 hz2 hm
  go_enter Tryz.func4, Tryz.ntmps4
  go_wp2_with fail
  with_reducible refine HNw.out.mono ?_
  rintro er w1 ⟨sv, b, r, t, g, s, tb, gr, me, rfl, hS1, hL1, hb1, _, hbe1⟩
  have HB1 := Lib.hid hbe1
  have HL1 := Lib.hid hL1
  have HSv1 : Hid (sv < w1.heap.size) := hS1.bk.lt
  have HF1 := Lib.hid (feed_nil (N := 5000) hS1 2)
  have hbw : w.heap.size ≤ b := hb1
  have hsw : w.heap.size ≤ sv := by have := hL1.b; omega
  clear hbe1 hS1 hL1 HNw
  go_wp2_with fail
  with_reducible refine (HWs.out _).mono ?_
  rintro er w2 ⟨rfl, rfl⟩
  have HMm := HM.out
  have hn6 := below_new w1 (.cells #[.int .u8 ((m : Int) % 256), .int .u8 ((m : Int) / 256)] 5)
  have e6 : (#[.int .u8 ((m : Int) % 256), .int .u8 ((m : Int) / 256)] : Array Value) = #[.int .u8 (w8 (UInt8.ofNat m)), .int .u8 (w8 (UInt8.ofNat (m / 256)))] := by
    rw [w8_ofNat, w8_ofNat, show ((m / 256 : Nat) : Int) % 256 = (m : Int) / 256 by omega]
  have hk6 : Bk (w1.alloc (.cells #[.int .u8 ((m : Int) % 256), .int .u8 ((m : Int) / 256)] 5)) w1.heap.size 5 #[.int .u8 (w8 (UInt8.ofNat m)), .int .u8 (w8 (UInt8.ofNat (m / 256)))] := by
    rw [← e6]
    exact Bk.made w1 5 #[.int .u8 ((m : Int) % 256), .int .u8 ((m : Int) / 256)]
  obtain ⟨c7, w7, hrun7, ho7, hb7⟩ := append_zeros2 hk6 hn6.size m (by omega) (by omega)
  rw [sk_head] at ho7
  have HB7 := Lib.hid (hn6.trans (below_le hn6.size hb7))
  have HO7 := Lib.hid ho7
  clear hn6 hk6 ho7 hb7 e6
  generalize (w1.alloc (.cells #[.int .u8 ((m : Int) % 256), .int .u8 ((m : Int) / 256)] 5)).heap.size = g7 at *
  go_upto_region 6 with (first | (at_builtin; go_loud (refine wpList_make rfl _ _ rfl rfl _ _ rfl rfl _ _ hrun7 ?_)) | fail)
  go_wp2_with fail
  with_reducible refine (HWn.out _).mono ?_
  rintro er w2 ⟨rfl, rfl⟩
  have HFr : Hid (∀ (q : Nat) (v : World), Calls Tryz.prog 9 #[.agg #[.int .i64 (10 + (q : Int)), .int .i64 6, .string ⟨#[]⟩, .string ⟨#[]⟩, .int .i64 0, .int .i64 0, .int .i64 0, .int .i64 0, .int .i64 0, .int .i64 0, .int .i64 0, .int .i64 0, .int .i64 0, .slice none 0 0]] v fun er w' => ∃ A' M c', er = .returned (.slice A' M c') ∧ OwnB w' v.heap.size (.slice A' M c') (frA (skA q)) ∧ Below v.heap.size v w') := fun q v => (playFrame_any (skA q) none 0 0 v (RdT.nil v)).mono fun er w' h => by
    obtain ⟨A', c', h1, h2, h3⟩ := h
    exact ⟨A', _, c', h1, h2, h3⟩
  have HLen : Hid (∀ q, (skT m q).length ≤ 2 + m + 608 * q) := fun q => (skT_len m q).2
  clear hrun7
  go_wp2_with fail
  go_loopw [9, 11] (fun y i wr => ∃ (q Lq : Nat) (A' : Option Addr) (c' : Nat), q ≤ k ∧ i = .int .i64 q ∧ y = .slice A' Lq c' ∧ Hid (OwnB wr w1.heap.size (.slice A' Lq c') (skT m q)) ∧ Hid (Below w1.heap.size w1 wr)) (fun _ i _ => k - (intOf i).toNat)
  case atStart => exact ⟨0, 2 + m, _, c7, Nat.zero_le _, rfl, rfl, HO7.out, HB7.out⟩
  case round =>
    obtain ⟨q, Lq, A', c', hq, rfl, rfl, hO, hB⟩ := hrel
    clear HO7 HB7
    by_cases hlt : q < k
    · have hi : (q : Int) < k := by omega
      have hLq := hO.out.rd.len
      have hLb := HLen.out q
      have hLq2 : Lq ≤ 5000 := by omega
      clear hLq hLb
      go_wp2_with fail
      with_reducible refine (HFr.out q wr).mono ?_
      rintro er w3 ⟨A3, M3, c3, rfl, hO3, hb3⟩
      have hl3 := hO3.rd.len
      have hp3 := putA_len (skA q)
      have hL3 : M3 ≤ 608 := by
        rw [← hl3, frA_is, frU_len]
        omega
      have HOw : Hid (OwnB w3 w1.heap.size (.slice A' Lq c') (skT m q)) := own_turned (P := fun _ => False) hO.out (Turned.of_below hb3) (fun _ _ => id)
      have HRw := Lib.hid hO3.rd
      have HBw := Lib.hid (hB.out.trans (below_le hB.out.size hb3))
      have HLq : Hid (Lq + M3 = (skT m q).length + M3) := by show _ = _; rw [hO.out.rd.len]
      have HLs : Hid ((skT m q).length + M3 ≤ 6000) := by show _ ≤ _; have := hO.out.rd.len; omega
      clear hO3 hb3 hl3 hp3 hO hB
      go_wp2_with (first | (at_builtin; go_loud (refine wpList_append_bytes rfl (.tmp 38) (.tmp 42) rfl w1.heap.size w1 _ (skT m q) rfl HOw.out A3 M3 c3 _ rfl HRw.out (by have := HLs.out; omega) HBw.out HBw.out.size (Lq + M3) HLq.out ?_); intro A4 c4 w4 ho4 hb4 hs4) | fail)
      refine ⟨⟨q + 1, Lq + M3, A4, c4, by omega, by go_num, rfl, ?_, hb4⟩, by simp [intOf]; omega⟩
      rw [skT_succ]
      exact ho4
    · have hi : ¬ (q : Int) < k := by omega
      have hqk : k = q := by omega
      subst hqk
      obtain ⟨T, hT⟩ : ∃ T, skT m k = T := ⟨_, rfl⟩
      have hAll := sk_all (m := m) (k := k) (by omega) (by omega) (by omega)
      have hRd := sk_part (m := m) (k := k) (by omega) (by omega) (by omega)
      have hLk := HLen.out k
      rw [hT] at hO hAll hRd hLk
      have HT := Lib.hid hT
      have HAll := Lib.hid hAll
      have HRd := Lib.hid hRd
      have hLn := hO.out.rd.len
      rw [hLn] at hLk
      have HLn := Lib.hid hLn
      have hL5 : Lq ≤ 5000 := by omega
      have HF2 := Lib.hid (HF1.out.ext hB.out)
      have HRT := Lib.hid hO.out.rd
      have HPl := Lib.hid (own_place hO.out)
      clear hT hAll hRd hLn hLk hO hB HF1 HFr HLen HWn
      go_wp2_with fail
      obtain ⟨wo, rfl⟩ : ∃ wo, wo = wr := ⟨_, rfl⟩
      go_loopw [9, 12] (fun y i wr => ∃ (q j : Nat) (A' : Option Addr) (n' c' : Nat), q + n' = Lq ∧ j ≤ q ∧ i = .int .i64 j ∧ y = .slice A' n' c' ∧ Hid (RdB wr A' n' c' (T.drop q)) ∧ Hid (∀ ad, A' = some ad → w1.heap.size ≤ ad.block) ∧ Hid (FeedAt 5000 0 w1 wr sv b r t g s tb gr me cf7a zCs 2 (T.take q) 0)) (fun y _ _ => match y with | .slice _ m _ => m | _ => 0)
      case atStart => exact ⟨0, 0, A', Lq, c', by omega, Nat.le_refl _, rfl, rfl, HRT.out, HPl.out, HF2.out⟩
      case round =>
        obtain ⟨q, j, A5, n5, c5, hqn, hjq, rfl, rfl, hR5, hP5, hF5⟩ := hrel
        clear HRT HPl HF2
        by_cases hpos : 0 < n5
        · have hgt : (n5 : Int) > 0 := by omega
          have hbw' : Below w.heap.size w wr := hF5.out.tu.below HB1.out HB1.out.size (fun i hi => by rcases hi with rfl | rfl <;> omega)
          by_cases hj : j < n
          case' pos =>
            have hjn : (j : Int) < n := by omega
            have hcl := HR.out.1.len
            rw [List.length_map] at hcl
            obtain ⟨z, hz⟩ : ∃ z, cuts[j]? = some z := ⟨cuts[j]'(by omega), List.getElem?_eq_getElem _⟩
            have hzb := HR.out.2 z (List.mem_of_getElem? hz)
            obtain ⟨ad, rfl, hblk, hce⟩ := (HR.out.ext hbw').1.cell j (.int .i64 z) (by rw [List.getElem?_map, hz]; rfl)
            have HWi := Lib.hid (within_any z 1 300 wr (by omega) (by omega) (by omega) hzb.1 hzb.2)
            have hin := within_in z 1 300 (by omega)
            generalize within z 1 300 = cv at HWi hin
            obtain ⟨hcv1, hcv2⟩ := hin
            clear hz hcl hbw'
            go_upto_region 17 with (first | (go_at_call 12; go_loud ((with_reducible refine HWi.out.mono ?_); rintro er w2 ⟨rfl, rfl⟩)) | fail)
            clear hce HWi hblk
          case' neg =>
            have hjn : ¬ (j : Int) < n := by omega
            clear hbw'
            go_upto_region 17 with fail
            generalize hcv0 : (200 : Int) = cv
            have hcv1 : 1 ≤ cv := by omega
            have hcv2 : cv ≤ 300 := by omega
            clear hcv0
          all_goals
              obtain ⟨cc, hmin, hcn, hccv⟩ := min_int n5 cv (by omega)
              rw [Int.min_comm] at hmin
              have hc0 : 1 ≤ cc := by omega
              have hcap5 := hR5.out.cap
              have hbig5 := hR5.out.big
              have hTl := HLn.out
              have hrd : RdB wr A5 cc c5 ((T.drop q).take cc) := hR5.out.upto cc hcn
              have htk : T.take q ++ (T.drop q).take cc = T.take (q + cc) := (List.take_add (l := T)).symm
              have hDo := feed_do hF5.out HL1.out (by omega) hrd (by rw [List.length_take]; omega) (by omega) (by omega) (Nat.zero_le _) (by rw [htk]; exact HRd.out _)
              rw [htk, show ((2 : Nat) : Int) = 2 from rfl] at hDo
              have HDo := Lib.hid hDo
              have hri : (cc : Int) ≤ (n5 : Int) := by omega
              have hrj : (n5 : Int) ≤ (c5 : Int) := by omega
              have hrk : (cc : Int) ≤ (c5 : Int) := by omega
              clear hrd htk hDo hTl hF5
              go_wp2_with fail
              with_reducible refine HDo.out.mono ?_
              rintro er w9 ⟨rfl, hF9, hT9⟩
              have hR9 : RdB wr (pastA A5 cc c5 1) (n5 - cc) (c5 - cc) ((T.drop q).drop cc) := hR5.out.past' cc hcn
              rw [List.drop_drop] at hR9
              have hP9 : ∀ ad, pastA A5 cc c5 1 = some ad → w1.heap.size ≤ ad.block := fun ad h => by
                obtain ⟨ad', q1, q2⟩ := pastA_block h
                rw [← q2]
                exact hP5.out ad' q1
              have hsl : sv < w1.heap.size := HSv1.out
              have hbl : b < w1.heap.size := by have := HL1.out.b; omega
              have HR9 : Hid (RdB w9 (pastA A5 cc c5 1) (n5 - cc) (c5 - cc) (T.drop (q + cc))) := RdB.turned hR9 hT9 (fun ad h => by have := hP9 ad h; omega)
              have HP9 := Lib.hid hP9
              have HF9 := Lib.hid hF9
              clear hR9 hP9 hF9 hT9 HDo hR5 hP5
              go_wp2_with fail
              exact ⟨⟨q + cc, j + 1, _, n5 - cc, c5 - cc, by omega, by omega, by go_num, rfl, HR9.out, HP9.out, HF9.out⟩, by simp; omega⟩
        · have hgt : ¬ (n5 : Int) > 0 := by omega
          go_wp2_with fail
          have hqL : q = Lq := by omega
          have hTl := HLn.out
          have hF6 := hF5.out
          rw [hqL, List.take_of_length_le (by omega)] at hF6
          have HB6 := Lib.hid (hF6.tu.below HB1.out HB1.out.size (fun i hi => by rcases hi with rfl | rfl <;> omega))
          have hOn := feed_one hF6 HL1.out (by omega) (by omega) (k + 1) (by rw [HAll.out, List.drop_zero, skE_len, Nat.add_comm])
          rw [HAll.out, List.drop_zero, show ((2 : Nat) : Int) = 2 from rfl] at hOn
          have HOn := Lib.hid hOn
          clear hF5 hF6 hR5 hP5 hOn hTl
          with_reducible refine HOn.out.mono ?_
          rintro er w7' ⟨A7, c7', Ls, rfl, hL7, hK7, hF7, hT7, hP7⟩
          obtain ⟨g, hg, d0, d1, _⟩ := hL7.get hK7 (k := 0) (e := .big) rfl
          subst hg
          have d0 : w7'.cell? ⟨g, 0, none⟩ = some (.int .i64 0) := d0
          have d1 : w7'.cell? ⟨g, 1, none⟩ = some (.int .i64 11) := d1
          have hcp := hK7.cap
          have hcb := hK7.big
          have FE : Hid (∀ j, j < k → w7'.cell? ⟨g, (1 + j) * 6, none⟩ = some (.int .i64 (10 + (j : Int))) ∧ w7'.cell? ⟨g, (1 + j) * 6 + 1, none⟩ = some (.int .i64 0)) := fun j hj => by
            obtain ⟨g', hg', e0, e1, _⟩ := hL7.get hK7 (skE_get hj)
            injection hg' with hg'
            injection hg' with hg'
            subst hg'
            rw [sk_ev (by omega)] at e0 e1
            exact ⟨e0, e1⟩
          have HB7 := Lib.hid ((hT7.more (Q := fun j => j = sv) (fun _ _ h => h)).below HB6.out HB6.out.size (fun i hi => by subst hi; omega))
          have HRn := Lib.hid (serverRuns_any (HLd.out.below HB7.out))
          obtain ⟨K1, hK1⟩ : ∃ K1, K1 = k + 1 := ⟨_, rfl⟩
          rw [← hK1] at hK7 hcp ⊢
          have hk11 : (1 : Int) + k = (K1 : Int) := by omega
          have hk10 : (0 : Int) < (K1 : Int) := by omega
          clear hL7 hK7 hF7 hT7 hP7 HOn HB6
          go_wp2_with fail
          go_loopw [15] (fun i wz => ∃ j : Nat, j ≤ k ∧ i = .int .i64 j ∧ w7' = wz) (fun i _ => k - (intOf i).toNat)
          case atStart => exact ⟨0, Nat.zero_le _, rfl, rfl⟩
          case round =>
            obtain ⟨j, hj, rfl, rfl⟩ := hrel
            by_cases hlj : j < k
            · have hjl : (j : Int) < k := by omega
              obtain ⟨e0, e1⟩ := FE.out j hlj
              obtain ⟨p, hp⟩ : ∃ p, 1 + j = p := ⟨_, rfl⟩
              have hpi : (1 : Int) + j = (p : Int) := by omega
              have hpk : (p : Int) < (K1 : Int) := by omega
              rw [hp] at e0 e1
              clear d0 d1
              go_wp2_with fail
              exact ⟨⟨j + 1, by omega, by go_num, trivial⟩, by simp [intOf]; omega⟩
            · have hjl : ¬ (j : Int) < k := by omega
              go_wp2_with fail
              with_reducible refine HRn.out.mono ?_
              rintro er w8 ⟨rfl, hb8⟩
              go_wp2_with fail
              go_ret
              exact ⟨rfl, HB7.out.trans (below_le HB7.out.size hb8)⟩
end Go.Proofs.YtkdlofgfkfhofaaGreatDoor

/-
  stavelaw25: ServerSkips, over whatever came.
-/
namespace Go.Proofs.YtkdlofgfkfhofaaGreatDoor
open Go.ChangeShapes Go.WideShapes Go.ChangeAt Go.RowKit
set_option maxRecDepth 100000 in
theorem serverSkips_law {H : Type} {enc : TypeId × Value → H} {base : Nat} {v0 v1 v2 : Value} {d0 d1 d2 : DataW H} {p0 p1 p2 : List MemPlace} (w : World) (hl : ErrLaid w) (h0 : Came enc w base 3 v0 d0 p0) (h1 : Came enc w base 45 v1 d1 p1) (h2 : Came enc w base 3 v2 d2 p2) :
    Calls Tryz.prog 4 #[v0, v1, v2] w fun er w' => er = .returned (.bool true) ∧ Below w.heap.size w w' := by
  obtain ⟨z0, rfl, hz0⟩ := h0.int
  obtain ⟨A, n, c, l, rfl, hr⟩ := h1.ints
  obtain ⟨z2, rfl, hz2⟩ := h2.int
  exact serverSkips_any z0 A n c l z2 hz0 hz2 hr hl
end Go.Proofs.YtkdlofgfkfhofaaGreatDoor
