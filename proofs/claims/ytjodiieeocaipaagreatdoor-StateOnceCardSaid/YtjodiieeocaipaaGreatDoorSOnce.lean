/-
  stavelaw21: StateOnce.
-/
import Derived.Test.YtjodiieeocaipaaGreatDoorSOnceM
namespace Go.Proofs.YtjodiieeocaipaaGreatDoor
open Go.RowKit Go.Maps
attribute [local go_sem ↓] ldB_eq stB_eq ldE_eq stE_eq ldD_eq stD_eq eqDn_eq guDn_eq

/-- what stands ahead of a round -/
def OnceI (w wr : World) (s b k nx : Nat) : Prop := ∃ (N : Nat) (M : StM) (P : PartM) (D : DataW Unit), N ≤ k + 1 ∧ Run w wr s N M (fun i => i = b) ∧ partT M.top tN 0 = some P ∧ OnceP P nx ∧
  wr.ownsMap Tryz.prog 3 (plainElem Tryz.prog 3) b nx D ∧ (1 ≤ nx → ∀ z, D.atKey (.int .i64 ((nx : Int) - 1)) z = .lit (.int .i64 (10 + 2 * ((nx : Int) - 1))))
set_option maxRecDepth 100000 in
theorem base_look {w : World} {b n : Nat} {D : DataW Unit} (h : w.ownsMap Tryz.prog 3 (plainElem Tryz.prog 3) b n D) {m x : Int} (hm : (Lit.int .i64 m).wf = true) (hat : ∀ z, D.atKey (.int .i64 m) z = .lit (.int .i64 x)) :
    (Instr.lookup 48 (.map (some b)) (.int .i64 m) false).run Tryz.prog w = .ok (.int .i64 x) w := by
  obtain ⟨v, ps, hlk, hv⟩ := h.lookup key_intd Tryz.underlying48 (zero_mark _) (plainElem_int Tryz.underlying3 (by decide)) (keyOf_int_mk Tryz.underlying3 (P := Tryz.prog) hm)
  rw [hat] at hv
  obtain ⟨c, rfl, hc, _⟩ := plainElem_int_inv Tryz.underlying3 hv
  injection hc with hc _
  injection hc with hc
  injection hc with _ hc
  rw [hlk, hc]
theorem run_P {w0 w : World} {s N : Nat} {M M' : StM} {K : Nat → Prop} (h : Run w0 w s N M K) (hN : N ≤ 900000) (q : Int) (A : Option Addr) (hrd : RdT w A 2 2 [⟨#[120]⟩, ⟨#[121]⟩]) (at_ : Int) {b c : Int} {g : Bool} {k : Int} (hM : applyM M (entP q) 0 at_ = (M', ⟨b, c, g⟩, k)) :
    Calls Tryz.prog 11 #[.pointer (some ⟨s, 0, none⟩), .agg #[.int .i64 3, .string ⟨#[116]⟩, .string ⟨#[]⟩, .int .i64 0, .int .i64 0, .int .i64 0, .int .i64 0, .int .i64 0, .int .i64 5, .int .i64 q, .slice A 2 2], .int .i64 0, .int .i64 at_] w
      fun er w' => ∃ v, er = .returned (.tuple #[.agg #[.int .i64 b, .int .i64 c, .bool g], v]) ∧ ErrV2 v k ∧ Run w0 w' s (N + 1) M' K ∧ Turned (fun i => w0.heap.size ≤ i ∧ ¬ K i) w w' :=
  run_step h hN (entP q) A 2 2 hrd 0 at_ hM
theorem wrap_k {k : Nat} (h : k ≤ 50) : wrap64 ((k : Int) + 1) = (k : Int) + 1 := IntWalk.wrap64_in _ ⟨by omega, by omega⟩
def neDn (x y : Value) : Sem Value := binOp .neq 25 x y
theorem neDn_eq (x y : Value) : binOp .neq 25 x y = neDn x y := rfl
def gnDn (a b : Operand) (x y : Value) : Sem Unit := eqGuard .neq 25 a b x y
theorem gnDn_eq (a b : Operand) (x y : Value) : eqGuard .neq 25 a b x y = gnDn a b x y := rfl
theorem ne_done (w : World) : (neDn (.agg #[.int .i64 0, .int .i64 0, .bool false]) (.agg #[.int .i64 0, .int .i64 0, .bool false])).run Tryz.prog w = .ok (.bool false) w := by kernel_rfl
theorem gn_done (x y : Operand) (a b : Int) (c : Bool) (a' b' : Int) (c' : Bool) (w : World) : (gnDn x y (.agg #[.int .i64 a, .int .i64 b, .bool c]) (.agg #[.int .i64 a', .int .i64 b', .bool c'])).run Tryz.prog w = .ok () w := run_eqGuard_agg w .neq _ _ _ _ _ (by kernel_rfl)
attribute [local go_sem ↓] neDn_eq gnDn_eq
set_option maxRecDepth 100000 in
set_option maxHeartbeats 1000000 in
theorem stOnce_any (A : Option Addr) (n c : Nat) (l : List Int) (parts : Int) (hp : -9223372036854775808 ≤ parts ∧ parts ≤ 9223372036854775807) (w : World) (hr : RdI w A n c l) (hl : ErrLaid w) :
    Calls Tryz.prog 5 #[.slice A n c, .int .i64 parts] w fun e w' => e = .returned (.bool true) ∧ Below w.heap.size w w' := by
  have HN := Lib.hid (run_new w)
  have HLd := Lib.hid hl
  have HR := Lib.hid hr
  have hmm := @run_makeMap Tryz.prog
  obtain ⟨p, hpw⟩ : ∃ p, within parts 1 3 = p := ⟨_, rfl⟩
  have hp13 := within_in parts 1 3 (by omega)
  rw [hpw] at hp13
  obtain ⟨M1, m1, p1⟩ := once_first hp13.1 hp13.2
  have G1 := Lib.hid m1
  have HP1 := Lib.hid p1
  have HPw := Lib.hid hpw
  have hlen := hr.1.len
  rw [List.length_map] at hlen
  have HLen := Lib.hid hlen
  clear hl hr m1 p1 hpw hlen hp13
  go_enter Tryz.func5, Tryz.ntmps5
  go_wp2_with fail
  with_reducible refine HN.out.mono ?_
  rintro er w1 ⟨s, rfl, hr1⟩
  have R0 := Lib.hid hr1
  have HWi := Lib.hid (within_any parts 1 3 w1 (by omega) (by omega) (by omega) hp.1 hp.2)
  rw [HPw.out] at HWi
  clear hr1 HN
  go_wp2_with fail
  with_reducible refine HWi.out.mono ?_
  rintro er w2 ⟨rfl, rfl⟩
  clear HWi
  go_wp2_with fail
  refine (run_step R0.out (by omega) (entC p 10) none 0 0 (RdT.nil _) 0 0 G1.out).mono ?_
  rintro er z1 ⟨v1, rfl, hv1, hr1, ht1⟩
  obtain rfl : v1 = .nilIface := by
    rcases hv1 with ⟨_, h⟩ | ⟨h, _⟩
    · exact h
    · exact absurd rfl h
  have hbn1 := below_new z1 (.cells #[.int .i64 0, .int .i64 0, .bool false] 25)
  have hst1 := stD_row (Bk.made z1 25 #[.int .i64 0, .int .i64 0, .bool false]) rfl 0 0 false
  have hbx1 := below_row hbn1 hbn1.size (Nat.le_refl _) #[.int .i64 0, .int .i64 0, .bool false]
  have R1 := Lib.hid (hr1.ext hbx1)
  clear hv1 hr1 ht1 hbn1 hbx1 R0
  go_upto_region 7 with fail
  generalize (z1.alloc (.cells #[.int .i64 0, .int .i64 0, .bool false] 25)).setRow z1.heap.size #[.int .i64 0, .int .i64 0, .bool false] = X1 at R1 ⊢
  clear hst1
  have hbm := below_new X1 (.map #[] 0)
  have R2 : Hid (Run w (X1.alloc (.map #[] 0)) s 1 M1 (fun i => i = X1.heap.size)) := (R1.out.ext hbm).less (fun i h => by subst h; exact .inr ⟨Nat.le_refl _, by simp⟩)
  have HO : Hid ((X1.alloc (.map #[] 0)).ownsMap Tryz.prog 3 (plainElem Tryz.prog 3) X1.heap.size 0 (.map [] : DataW Unit)) := World.ownsMap_made X1 Tryz.prog 3 (plainElem Tryz.prog 3)
  clear hbm
  go_wp2_with fail
  obtain ⟨b, hb⟩ : ∃ b, b = X1.heap.size := ⟨_, rfl⟩
  rw [← hb] at R2 HO ⊢
  generalize X1.alloc (.map #[] 0) = X2 at R2 HO ⊢
  have hI : OnceI w X2 s b 0 0 := ⟨1, M1, _, _, by omega, R2.out, HP1.out, once_start, HO.out, fun h => absurd h (by omega)⟩
  have HI := Lib.hid hI
  have HBb : Hid (w.heap.size ≤ b) := by rw [hb]; exact R1.out.below.size
  clear hI R1 R2 HO hb
  go_loopw [9, 10, 11] (fun s9 s10 s11 wr => ∃ k nx : Nat, k ≤ n ∧ k ≤ 50 ∧ nx ≤ k ∧ s9 = .int .i64 nx ∧ s10 = .int .i64 (2 * (nx : Int)) ∧ s11 = .int .i64 k ∧ Hid (OnceI w wr s b k nx)) (fun _ _ i _ => 50 - (intOf i).toNat)
  case atStart => exact ⟨0, 0, Nat.zero_le _, Nat.zero_le _, Nat.le_refl _, rfl, rfl, rfl, HI⟩
  case round =>
    obtain ⟨k, nx, hkn, hk50, hnk, rfl, rfl, rfl, hInv⟩ := hrel
    by_cases hlt : k < n ∧ k < 50
    · obtain ⟨hk1, hk2⟩ := hlt
      have hi1 : (k : Int) < n := by omega
      have hi2 : (k : Int) < 50 := by omega
      obtain ⟨N, M, P, D, hN, hRun, hPart, hOnce, hOwn, hAt⟩ := hInv.out
      obtain ⟨z, hz⟩ : ∃ z, l[k]? = some z := ⟨l[k]'(by have := HLen.out; omega), List.getElem?_eq_getElem _⟩
      have hzb := HR.out.2 z (List.mem_of_getElem? hz)
      obtain ⟨ad, rfl, hblk, hce⟩ := (HR.out.ext hRun.below).1.cell k (.int .i64 z) (by rw [List.getElem?_map, hz]; rfl)
      have hw1 : wrap64 ((nx : Int) - 3) = (nx : Int) - 3 := IntWalk.wrap64_in _ ⟨by omega, by omega⟩
      have hw2 : wrap64 ((nx : Int) + 2) = (nx : Int) + 2 := IntWalk.wrap64_in _ ⟨by omega, by omega⟩
      have HRun := Lib.hid hRun
      have HPart := Lib.hid hPart
      have HOnce := Lib.hid hOnce
      have HOwn := Lib.hid hOwn
      have HAt := Lib.hid hAt
      clear hRun hPart hOnce hOwn hAt hInv hz
      have hk60 : nx ≤ 50 := Nat.le_trans hnk hk50
      have HWm := Lib.hid (within_any z (max ((nx : Int) - 3) 0) ((nx : Int) + 2) wr (by omega) (by omega) (by omega) hzb.1 hzb.2)
      have hmb := within_in z (max ((nx : Int) - 3) 0) ((nx : Int) + 2) (by omega)
      obtain ⟨m, hm⟩ : ∃ m, within z (max ((nx : Int) - 3) 0) ((nx : Int) + 2) = m := ⟨_, rfl⟩
      rw [hm] at HWm hmb
      clear hm
      go_wp2_with fail
      with_reducible refine HWm.out.mono ?_
      rintro er w3 ⟨rfl, rfl⟩
      clear HWm hw1 hw2
      obtain ⟨m0, m1⟩ : 0 ≤ m ∧ m < 60 := by omega
      clear hmb
      go_wp2_with fail
      with_reducible refine (lawProd_any m _).mono ?_
      rintro er y1 ⟨A1, rfl, hrd, hb1⟩
      have HRd := Lib.hid hrd
      have HRy := Lib.hid ((HRun.out.ext hb1).less (K' := fun i => i = b) (fun _ h => .inl h))
      have HOy := Lib.hid (map_turned (P := fun _ => False) HOwn.out (Turned.of_below hb1) id)
      clear hrd hb1
      have hNN : N ≤ 900000 := by omega
      by_cases hmn : m = (nx : Int)
      · skip
        obtain ⟨P', hpm, hOn⟩ := once_new HOnce.out (by omega) (k : Int) (by omega)
        have hpm2 : prodM P (batP m) 0 (k : Int) = (P', ⟨10 + 2 * (nx : Int), 2, false⟩, 0) := by rw [hmn]; exact hpm
        obtain ⟨M', hM, hPt⟩ := app_P2 (right_Pm m0 m1) (by omega) (by omega) HPart.out hpm2
        clear hpm2
        clear hpm
        have HMn := Lib.hid hmn
        clear hmn
        have HM := Lib.hid hM
        have HPt := Lib.hid hPt
        have HOn := Lib.hid hOn
        clear hM hPt hOn
        go_wp2_with fail
        with_reducible refine (run_P HRy.out hNN m A1 HRd.out (k : Int) HM.out).mono ?_
        rintro er z2 ⟨v2, rfl, hv2, hr2, ht2⟩
        obtain rfl : v2 = .nilIface := by
          rcases hv2 with ⟨_, h⟩ | ⟨h, _⟩
          · exact h
          · exact absurd rfl h
        clear hv2
        have hO2 := map_turned HOy.out ht2 (fun hx => hx.2 rfl)
        have hbn2 := below_new z2 (.cells #[.int .i64 0, .int .i64 0, .bool false] 25)
        have hst2 := stD_row (Bk.made z2 25 #[.int .i64 0, .int .i64 0, .bool false]) rfl (10 + 2 * (nx : Int)) 2 false
        have hkn2 := (Bk.made z2 25 #[.int .i64 0, .int .i64 0, .bool false]).row #[.int .i64 (10 + 2 * (nx : Int)), .int .i64 2, .bool false]
        have hbx2 := below_row hbn2 hbn2.size (Nat.le_refl _) #[.int .i64 (10 + 2 * (nx : Int)), .int .i64 2, .bool false]
        have R3 := Lib.hid ((hr2.ext hbx2).less (K' := fun i => i = b) (fun _ h => .inl h))
        have HO3 := Lib.hid (map_turned (P := fun _ => False) hO2 (Turned.of_below hbx2) id)
        have HK3 := Lib.hid hkn2
        clear hO2 hbn2 hkn2 hbx2 hr2 ht2 HRy HOy HRd HRun HOwn
        go_upto_region 14 with fail
        generalize (z2.alloc (.cells #[.int .i64 0, .int .i64 0, .bool false] 25)).setRow z2.heap.size #[.int .i64 (10 + 2 * (nx : Int)), .int .i64 2, .bool false] = X3 at R3 HO3 HK3 ⊢
        clear hst2
        have HLg := Lib.hid (show Calls Tryz.prog 17 #[.pointer (some ⟨s, 0, none⟩), .string ⟨#[116]⟩, .int .i64 0] X3 _ from run_log R3.out tN (by decide) 0 HPt.out)
        go_wp2_with fail
        with_reducible refine HLg.out.mono ?_
        rintro er w4 ⟨lb, Q, rfl, hla, hqb, rfl⟩
        have HLa := Lib.hid hla
        have HQb := Lib.hid hqb
        clear hla hqb HLg
        have q1 : (m == (nx : Int)) = true := by rw [HMn.out]; simp
        have hkey := keyOf_int_mk Tryz.underlying3 (P := Tryz.prog) (wf_of (z := m) (by omega) (by omega))
        have hnl : 10 + 2 * (((nx + 1 : Nat)) : Int) = 10 + (2 * (nx : Int) + 2) := by omega
        have hln0 : (((nx + 1 : Nat)) : Int) = (nx : Int) + 1 := by omega
        have HNL := Lib.hid (And.intro hnl hln0)
        clear hnl hln0
        have hpe := plainElem_int (P := Tryz.prog) (H := Unit) Tryz.underlying3 (wf_of (z := 10 + 2 * (nx : Int)) (by omega) (by omega))
        have hlt3 : nx < maxLen := by unfold maxLen; omega
        have f0 : X3.cell? ⟨z2.heap.size, 0, none⟩ = some (.int .i64 (10 + 2 * (nx : Int))) := HK3.out.cell 0
        have f1 : X3.cell? ⟨z2.heap.size, 1, none⟩ = some (.int .i64 2) := HK3.out.cell 1
        have f2 : X3.cell? ⟨z2.heap.size, 2, none⟩ = some (.bool false) := HK3.out.cell 2
        have HF : Hid (∀ (w5 : World), w5.ownsMap Tryz.prog 3 (plainElem Tryz.prog 3) b (nx + 1) (D.put (.int .i64 m) (.lit (.int .i64 (10 + 2 * (nx : Int))))) → X3.grownBy w5 (some b) → OnceI w w5 s b (k + 1) (nx + 1) ∧ LogAt w5 Q lb P'.log) := by
          intro w5 ho5 hg5
          have hT : Turned (fun i => i = b) X3 w5 := Turned.of_grown hg5 (fun j e => (Option.some.inj e).symm)
          refine ⟨⟨N + 1, M', P', _, by omega, R3.out.turned hT (fun i _ hi => ⟨hi, by subst hi; exact HBb.out⟩), HPt.out, HOn.out, ho5, fun _ z => ?_⟩, HLa.out.turned hT (fun i _ hq => HQb.out i hq)⟩
          rw [show (((nx + 1 : Nat)) : Int) - 1 = m by rw [HMn.out]; omega, atKey_put_same (HO3.out.tidy key_intd).isMap (show WideAt.IsKeyLit (.int .i64 m) from trivial), HMn.out]
        have HNn := HOn.out.next
        have HNe := HOn.out.len
        have HNN := Lib.hid (And.intro HNn HNe)
        clear HNn HNe
        go_wp2_with (first | (at_mapUpdate; go_loud (refine wpList_mapUpdate_own _ rfl _ _ _ 48 rfl 3 3 key_intd Tryz.underlying48 (plainElem Tryz.prog 3) b nx D rfl HO3.out hlt3 _ _ (.int .i64 m) rfl rfl hkey (.lit (.int .i64 (10 + 2 * (nx : Int)))) [] hpe ?_); go_loud (intro w5 ho5 hg5); obtain ⟨hi5, hl5⟩ := HF.out w5 ho5 hg5; have HI5 := Lib.hid hi5; have hnx := logNext_any hl5; rw [show P'.log.next = 10 + (2 * (nx : Int) + 2) from HNN.out.1.trans HNL.out.1] at hnx; have hln := logLen_any hl5; rw [show (P'.log.heads.length : Int) = (nx : Int) + 1 from by rw [HNN.out.2]; exact HNL.out.2] at hln; have HNx := Lib.hid hnx; have HLn := Lib.hid hln; clear hnx hln hi5 hl5 ho5 hg5) | (go_at_call 18; with_reducible refine HNx.out.mono ?_; rintro er x7 ⟨rfl, rfl⟩) | (go_at_call 19; with_reducible refine HLn.out.mono ?_; rintro er x8 ⟨rfl, rfl⟩) | fail)
        first
          | exact ⟨⟨k + 1, nx + 1, by omega, by omega, by omega, by go_num, (congrArg (Value.int .i64) (by omega)), by go_num, HI5⟩, by simp [intOf]; omega⟩
      · by_cases hm2 : m = (nx : Int) - 1
        · skip
          have hpm := once_again HOnce.out (by omega) (k : Int) hm2 m0
          obtain ⟨M', hM, hPt⟩ := app_P2 (right_Pm m0 m1) (by omega) (by omega) HPart.out hpm
          have hOn := HOnce.out
          clear hpm
          have HMn := Lib.hid hmn
          clear hmn
          have HM2 := Lib.hid hm2
          clear hm2
          have HM := Lib.hid hM
          have HPt := Lib.hid hPt
          have HOn := Lib.hid hOn
          clear hM hPt hOn
          go_wp2_with fail
          with_reducible refine (run_P HRy.out hNN m A1 HRd.out (k : Int) HM.out).mono ?_
          rintro er z2 ⟨v2, rfl, hv2, hr2, ht2⟩
          obtain rfl : v2 = .nilIface := by
            rcases hv2 with ⟨_, h⟩ | ⟨h, _⟩
            · exact h
            · exact absurd rfl h
          clear hv2
          have hO2 := map_turned HOy.out ht2 (fun hx => hx.2 rfl)
          have hbn2 := below_new z2 (.cells #[.int .i64 0, .int .i64 0, .bool false] 25)
          have hst2 := stD_row (Bk.made z2 25 #[.int .i64 0, .int .i64 0, .bool false]) rfl (10 + 2 * ((nx : Int) - 1)) 2 true
          have hkn2 := (Bk.made z2 25 #[.int .i64 0, .int .i64 0, .bool false]).row #[.int .i64 (10 + 2 * ((nx : Int) - 1)), .int .i64 2, .bool true]
          have hbx2 := below_row hbn2 hbn2.size (Nat.le_refl _) #[.int .i64 (10 + 2 * ((nx : Int) - 1)), .int .i64 2, .bool true]
          have R3 := Lib.hid ((hr2.ext hbx2).less (K' := fun i => i = b) (fun _ h => .inl h))
          have HO3 := Lib.hid (map_turned (P := fun _ => False) hO2 (Turned.of_below hbx2) id)
          have HK3 := Lib.hid hkn2
          clear hO2 hbn2 hkn2 hbx2 hr2 ht2 HRy HOy HRd HRun HOwn
          go_upto_region 14 with fail
          generalize (z2.alloc (.cells #[.int .i64 0, .int .i64 0, .bool false] 25)).setRow z2.heap.size #[.int .i64 (10 + 2 * ((nx : Int) - 1)), .int .i64 2, .bool true] = X3 at R3 HO3 HK3 ⊢
          clear hst2
          have HLg := Lib.hid (show Calls Tryz.prog 17 #[.pointer (some ⟨s, 0, none⟩), .string ⟨#[116]⟩, .int .i64 0] X3 _ from run_log R3.out tN (by decide) 0 HPt.out)
          go_wp2_with fail
          with_reducible refine HLg.out.mono ?_
          rintro er w4 ⟨lb, Q, rfl, hla, hqb, rfl⟩
          have HLa := Lib.hid hla
          have HQb := Lib.hid hqb
          clear hla hqb HLg
          have q1 : (m == (nx : Int)) = false := by have := HMn.out; simpa using this
          have q2 : (m == (nx : Int) - 1) = true := by rw [HM2.out]; simp
          have hlk := base_look HO3.out (m := m) (x := 10 + 2 * ((nx : Int) - 1)) (wf_of (by omega) (by omega)) (by rw [HM2.out]; exact HAt.out (by have := HM2.out; omega))
          have f0 : X3.cell? ⟨z2.heap.size, 0, none⟩ = some (.int .i64 (10 + 2 * ((nx : Int) - 1))) := HK3.out.cell 0
          have f1 : X3.cell? ⟨z2.heap.size, 1, none⟩ = some (.int .i64 2) := HK3.out.cell 1
          have f2 : X3.cell? ⟨z2.heap.size, 2, none⟩ = some (.bool true) := HK3.out.cell 2
          have HI5 : Hid (OnceI w X3 s b (k + 1) nx) := ⟨N + 1, M', P, D, by omega, R3.out, HPt.out, HOn.out, HO3.out, HAt.out⟩
          have hnx := logNext_any HLa.out
          rw [show P.log.next = 10 + 2 * (nx : Int) from HOn.out.next] at hnx
          have hln := logLen_any HLa.out
          rw [show (P.log.heads.length : Int) = (nx : Int) from by rw [HOn.out.len]] at hln
          have HNx := Lib.hid hnx
          have HLn := Lib.hid hln
          clear hnx hln
          go_wp2_with (first | (go_at_call 18; with_reducible refine HNx.out.mono ?_; rintro er x7 ⟨rfl, rfl⟩) | (go_at_call 19; with_reducible refine HLn.out.mono ?_; rintro er x8 ⟨rfl, rfl⟩) | fail)
          first
            | exact ⟨⟨k + 1, nx, by omega, by omega, by omega, rfl, rfl, by go_num, HI5⟩, by simp [intOf]; omega⟩
        · skip
          have hpm : prodM P (batP m) 0 (k : Int) = (P, ⟨0, 0, false⟩, 12) := once_bad HOnce.out (k : Int) m0 (by omega) hmn hm2
          obtain ⟨M', hM, hPt⟩ := app_P2 (right_Pm m0 m1) (by omega) (by omega) HPart.out hpm
          have hOn := HOnce.out
          clear hpm
          have HMn := Lib.hid hmn
          clear hmn
          have HM2 := Lib.hid hm2
          clear hm2
          have HM := Lib.hid hM
          have HPt := Lib.hid hPt
          have HOn := Lib.hid hOn
          clear hM hPt hOn
          go_wp2_with fail
          with_reducible refine (run_P HRy.out hNN m A1 HRd.out (k : Int) HM.out).mono ?_
          rintro er z2 ⟨v2, rfl, hv2, hr2, ht2⟩
          have HV2 := Lib.hid hv2
          clear hv2
          have hO2 := map_turned HOy.out ht2 (fun hx => hx.2 rfl)
          have hbn2 := below_new z2 (.cells #[.int .i64 0, .int .i64 0, .bool false] 25)
          have hst2 := stD_row (Bk.made z2 25 #[.int .i64 0, .int .i64 0, .bool false]) rfl (0) 0 false
          have hkn2 := (Bk.made z2 25 #[.int .i64 0, .int .i64 0, .bool false]).row #[.int .i64 (0), .int .i64 0, .bool false]
          have hbx2 := below_row hbn2 hbn2.size (Nat.le_refl _) #[.int .i64 (0), .int .i64 0, .bool false]
          have R3 := Lib.hid ((hr2.ext hbx2).less (K' := fun i => i = b) (fun _ h => .inl h))
          have HO3 := Lib.hid (map_turned (P := fun _ => False) hO2 (Turned.of_below hbx2) id)
          have HK3 := Lib.hid hkn2
          clear hO2 hbn2 hkn2 hbx2 hr2 ht2 HRy HOy HRd HRun HOwn
          go_upto_region 14 with fail
          generalize (z2.alloc (.cells #[.int .i64 0, .int .i64 0, .bool false] 25)).setRow z2.heap.size #[.int .i64 (0), .int .i64 0, .bool false] = X3 at R3 HO3 HK3 ⊢
          clear hst2
          have HLg := Lib.hid (show Calls Tryz.prog 17 #[.pointer (some ⟨s, 0, none⟩), .string ⟨#[116]⟩, .int .i64 0] X3 _ from run_log R3.out tN (by decide) 0 HPt.out)
          go_wp2_with fail
          with_reducible refine HLg.out.mono ?_
          rintro er w4 ⟨lb, Q, rfl, hla, hqb, rfl⟩
          have HLa := Lib.hid hla
          have HQb := Lib.hid hqb
          clear hla hqb HLg
          have q1 : (m == (nx : Int)) = false := by have := HMn.out; simpa using this
          have q2 : (m == (nx : Int) - 1) = false := by have := HM2.out; simpa using this
          have HKd := Lib.hid (kindV HV2.out (by decide) X3 (R3.out.laid HLd.out))
          have HF : Hid (∀ x5, Below X3.heap.size X3 x5 → OnceI w x5 s b (k + 1) nx ∧ LogAt x5 Q lb P.log ∧ Bk x5 z2.heap.size 25 #[.int .i64 0, .int .i64 0, .bool false]) := fun x5 hb5 => ⟨⟨N + 1, M', P, D, by omega, (R3.out.ext hb5).less (fun _ h => .inl h), HPt.out, HOn.out, map_turned (P := fun _ => False) HO3.out (Turned.of_below hb5) id, HAt.out⟩, HLa.out.ext hb5, HK3.out.ext hb5⟩
          have HNN := Lib.hid (And.intro HOn.out.next HOn.out.len)
          go_wp2_with (first | (go_at_call 13; with_reducible refine HKd.out.mono ?_; rintro er x5 ⟨rfl, hx5⟩; obtain ⟨hi5, hl5, hk5⟩ := HF.out x5 hx5; have HI5 := Lib.hid hi5; have hld5 := ldD_bk hk5; have hne5 := ne_done x5; have hgn5 := gn_done (.tmp 66) (.tmp 67) 0 0 false 0 0 false x5; have hnx := logNext_any hl5; rw [show P.log.next = 10 + 2 * (nx : Int) from HNN.out.1] at hnx; have hln := logLen_any hl5; rw [show (P.log.heads.length : Int) = (nx : Int) from by rw [HNN.out.2]] at hln; have HNx := Lib.hid hnx; have HLn := Lib.hid hln; clear hnx hln hi5 hl5 hk5 hx5) | (go_at_call 18; with_reducible refine HNx.out.mono ?_; rintro er x7 ⟨rfl, rfl⟩) | (go_at_call 19; with_reducible refine HLn.out.mono ?_; rintro er x8 ⟨rfl, rfl⟩) | fail)
          first
            | exact ⟨⟨k + 1, nx, by omega, by omega, by omega, rfl, rfl, by go_num, HI5⟩, by simp [intOf]; omega⟩
    · have hRun : ∃ N M K, Run w wr s N M K := by
        obtain ⟨N, M, P, D, hN, hRun, _⟩ := hInv.out
        exact ⟨N, M, _, hRun⟩
      obtain ⟨N, M, K, hRun⟩ := hRun
      have HSt := Lib.hid (stRuns_any wr (hRun.laid HLd.out))
      have HBl := Lib.hid hRun.below
      clear hRun hInv
      by_cases hk1 : k < n
      · have hi1 : (k : Int) < n := by omega
        have hi2 : ¬ (k : Int) < 50 := by omega
        clear hlt
        go_wp2_with fail
        with_reducible refine HSt.out.mono ?_
        rintro er x9 ⟨rfl, hx9⟩
        have HX9 := Lib.hid hx9
        clear hx9
        go_wp2_with fail
        go_ret
        exact ⟨rfl, HBl.out.trans (below_le HBl.out.size HX9.out)⟩
      · have hi1 : ¬ (k : Int) < n := by omega
        clear hlt
        go_wp2_with fail
        with_reducible refine HSt.out.mono ?_
        rintro er x9 ⟨rfl, hx9⟩
        have HX9 := Lib.hid hx9
        clear hx9
        go_wp2_with fail
        go_ret
        exact ⟨rfl, HBl.out.trans (below_le HBl.out.size HX9.out)⟩
end Go.Proofs.YtjodiieeocaipaaGreatDoor
