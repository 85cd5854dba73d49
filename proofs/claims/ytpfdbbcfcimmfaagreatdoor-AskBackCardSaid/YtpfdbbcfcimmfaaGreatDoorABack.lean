/-
  AskBack: the walk.
-/
import Derived.Test.YtpfdbbcfcimmfaaGreatDoorAFew
import Derived.Test.YtpfdbbcfcimmfaaGreatDoorAKeep
import Derived.Test.YtpfdbbcfcimmfaaGreatDoorARuns
import Derived.Deep.CutRange
namespace Go.Proofs.YtpfdbbcfcimmfaaGreatDoor
open Go.RowKit
attribute [local go_sem ↓] ldA_eq stA_eq
attribute [local go_sem] w8_nn w8_256 wrap_i64_w8 wrap64_w8 pastA_zero

/-- block g is old, all else stays -/
def BelG (g : Nat) (a b : World) : Prop := Below g a b ∧ g ≤ b.heap.size
theorem BelG.next {g : Nat} {a b c : World} (h : BelG g a b) (hb : Below b.heap.size b c) : BelG g a c := ⟨h.1.trans (below_le h.2 hb), Nat.le_trans h.2 hb.size⟩
/-- what stays of the ask and its bytes -/
structure AbI (B : Nat) (a0 Wq : World) (g1 g : Nat) (x : Ask) (A1 : Option Addr) (n1 c1 : Nat) (M cap : Nat) (w : World) : Prop where
  k1 : Bk w g1 47 #[.int .i64 x.corr, .int .i64 x.kind, .string x.topic, .string x.group, .int .i64 x.part, .int .i64 x.parts, .int .i64 x.first, .int .i64 x.off, .int .i64 x.most, .int .i64 x.time, .int .i64 x.bat.time, .int .i64 x.bat.prod, .int .i64 x.bat.seq, .slice A1 n1 c1]
  rx : RdT w A1 n1 c1 x.bat.vals
  p : OwnAt w g cap (putA x)
  rp : RdB w (some ⟨g, 0, none⟩) M cap (putA x)
  b : BelG B a0 w
  b1 : BelG Wq.heap.size Wq w
theorem AbI.ext {B : Nat} {a0 Wq : World} {g1 g : Nat} {x : Ask} {A1 : Option Addr} {n1 c1 : Nat} {M cap : Nat} {w w' : World} (h : AbI B a0 Wq g1 g x A1 n1 c1 M cap w) (hb : Below w.heap.size w w') : AbI B a0 Wq g1 g x A1 n1 c1 M cap w' :=
  ⟨h.k1.ext hb, RdT.ext h.rx hb, h.p.ext hb, RdB.ext h.rp hb, h.b.next hb, h.b1.next hb⟩
/-- the four that Get handed back, the ask, behind the change of the first byte -/
structure Ab4 (B : Nat) (a0 : World) (g1 ga gb gc : Nat) (x : Ask) (A1 : Option Addr) (n1 c1 : Nat) (A5 : Option Addr) (n5 c5 : Nat) (cb : Int) (Ab : Option Addr) (nb cb' : Nat) (Ac : Option Addr) (nc cc : Nat) (w : World) : Prop where
  k1 : Bk w g1 47 #[.int .i64 x.corr, .int .i64 x.kind, .string x.topic, .string x.group, .int .i64 x.part, .int .i64 x.parts, .int .i64 x.first, .int .i64 x.off, .int .i64 x.most, .int .i64 x.time, .int .i64 x.bat.time, .int .i64 x.bat.prod, .int .i64 x.bat.seq, .slice A1 n1 c1]
  rx : RdT w A1 n1 c1 x.bat.vals
  ka : Bk w ga 47 #[.int .i64 x.corr, .int .i64 x.kind, .string x.topic, .string x.group, .int .i64 x.part, .int .i64 x.parts, .int .i64 x.first, .int .i64 x.off, .int .i64 x.most, .int .i64 x.time, .int .i64 x.bat.time, .int .i64 x.bat.prod, .int .i64 x.bat.seq, .slice A5 n5 c5]
  ra : RdT w A5 n5 c5 x.bat.vals
  kb : Bk w gb 47 #[.int .i64 cb, .int .i64 0, .string ⟨#[]⟩, .string ⟨#[]⟩, .int .i64 0, .int .i64 0, .int .i64 0, .int .i64 0, .int .i64 0, .int .i64 0, .int .i64 0, .int .i64 0, .int .i64 0, .slice Ab nb cb']
  kc : Bk w gc 47 #[.int .i64 x.corr, .int .i64 0, .string ⟨#[]⟩, .string ⟨#[]⟩, .int .i64 0, .int .i64 0, .int .i64 0, .int .i64 0, .int .i64 0, .int .i64 0, .int .i64 0, .int .i64 0, .int .i64 0, .slice Ac nc cc]
  b : BelG B a0 w
theorem Ab4.ext {B : Nat} {a0 : World} {g1 ga gb gc : Nat} {x : Ask} {A1 : Option Addr} {n1 c1 : Nat} {A5 : Option Addr} {n5 c5 : Nat} {cb : Int} {Ab : Option Addr} {nb cb' : Nat} {Ac : Option Addr} {nc cc : Nat} {w w' : World} (h : Ab4 B a0 g1 ga gb gc x A1 n1 c1 A5 n5 c5 cb Ab nb cb' Ac nc cc w) (hb : Below w.heap.size w w') : Ab4 B a0 g1 ga gb gc x A1 n1 c1 A5 n5 c5 cb Ab nb cb' Ac nc cc w' :=
  ⟨h.k1.ext hb, RdT.ext h.rx hb, h.ka.ext hb, RdT.ext h.ra hb, h.kb.ext hb, h.kc.ext hb, h.b.next hb⟩
set_option maxRecDepth 100000 in
set_option maxHeartbeats 8000000 in
theorem askBack_w (e : Ask) (A : Option Addr) (n c : Nat) (z : Int) (hz : fitI z) (b0 vv : UInt8) (w : World) (hl : ErrLaid w) (hr : RdT w A n c e.bat.vals) :
    Calls Tryz.prog 6 #[.agg #[.int .i64 e.corr, .int .i64 e.kind, .string e.topic, .string e.group, .int .i64 e.part, .int .i64 e.parts, .int .i64 e.first, .int .i64 e.off, .int .i64 e.most, .int .i64 e.time, .int .i64 e.bat.time, .int .i64 e.bat.prod, .int .i64 e.bat.seq, .slice A n c], .int .i64 z, .int .u8 (w8 b0), .int .u8 (w8 vv)] w fun er w' => er = .returned (.bool true) ∧ Below w.heap.size w w' := by
  have hbn := below_new w (.cells #[.int .i64 e.corr, .int .i64 e.kind, .string e.topic, .string e.group, .int .i64 e.part, .int .i64 e.parts, .int .i64 e.first, .int .i64 e.off, .int .i64 e.most, .int .i64 e.time, .int .i64 e.bat.time, .int .i64 e.bat.prod, .int .i64 e.bat.seq, .slice A n c] 47)
  have hld := ldA_bk (Bk.made w 47 #[.int .i64 e.corr, .int .i64 e.kind, .string e.topic, .string e.group, .int .i64 e.part, .int .i64 e.parts, .int .i64 e.first, .int .i64 e.off, .int .i64 e.most, .int .i64 e.time, .int .i64 e.bat.time, .int .i64 e.bat.prod, .int .i64 e.bat.seq, .slice A n c])
  have HF := Lib.hid (afew_any e A n c _ (hr.ext hbn))
  have HB0 := Lib.hid hbn
  have HL := Lib.hid hl
  clear hbn hr hl
  go_enter Tryz.func6, Tryz.ntmps6
  go_wp2_with fail
  with_reducible refine HF.out.mono ?_
  rintro er w1 ⟨x, A1, n1, c1, rfl, hr1, hb1⟩
  have hst1 := stA_newAt w1 w1.heap.size rfl x.corr x.kind x.topic x.group x.part x.parts x.first x.off x.most x.time x.bat.time x.bat.prod x.bat.seq A1 n1 c1 #[.int .i64 0, .int .i64 0, .string ⟨#[]⟩, .string ⟨#[]⟩, .int .i64 0, .int .i64 0, .int .i64 0, .int .i64 0, .int .i64 0, .int .i64 0, .int .i64 0, .int .i64 0, .int .i64 0, .slice none 0 0] rfl
  have hbn1 := below_new w1 (.cells #[.int .i64 x.corr, .int .i64 x.kind, .string x.topic, .string x.group, .int .i64 x.part, .int .i64 x.parts, .int .i64 x.first, .int .i64 x.off, .int .i64 x.most, .int .i64 x.time, .int .i64 x.bat.time, .int .i64 x.bat.prod, .int .i64 x.bat.seq, .slice A1 n1 c1] 47)
  have hk1 := Bk.made w1 47 #[.int .i64 x.corr, .int .i64 x.kind, .string x.topic, .string x.group, .int .i64 x.part, .int .i64 x.parts, .int .i64 x.first, .int .i64 x.off, .int .i64 x.most, .int .i64 x.time, .int .i64 x.bat.time, .int .i64 x.bat.prod, .int .i64 x.bat.seq, .slice A1 n1 c1]
  have hld1 := ldA_bk hk1
  have HK1 := Lib.hid hk1
  have HR1 := Lib.hid (RdT.ext hr1 hbn1)
  have hB1 := HB0.out.trans (below_le HB0.out.size (hb1.trans (below_le hb1.size hbn1)))
  have HB1 := Lib.hid (show BelG w.heap.size w (w1.alloc (.cells #[.int .i64 x.corr, .int .i64 x.kind, .string x.topic, .string x.group, .int .i64 x.part, .int .i64 x.parts, .int .i64 x.first, .int .i64 x.off, .int .i64 x.most, .int .i64 x.time, .int .i64 x.bat.time, .int .i64 x.bat.prod, .int .i64 x.bat.seq, .slice A1 n1 c1] 47)) from ⟨hB1, hB1.size⟩)
  have HP := Lib.hid (aPut_any x A1 n1 c1 _ HR1.out)
  clear hk1 hr1 hb1 hB1 hbn1 HF HB0
  go_wp2_with fail
  with_reducible refine HP.out.mono ?_
  rintro er w2 ⟨A2, M2, c2, rfl, ho2, hb2⟩
  clear hld1 hst1 hld HP
  generalize w1.heap.size = g1 at HK1 ⊢
  generalize w1.alloc (.cells #[.int .i64 x.corr, .int .i64 x.kind, .string x.topic, .string x.group, .int .i64 x.part, .int .i64 x.parts, .int .i64 x.first, .int .i64 x.off, .int .i64 x.most, .int .i64 x.time, .int .i64 x.bat.time, .int .i64 x.bat.prod, .int .i64 x.bat.seq, .slice A1 n1 c1] 47) = W1 at HK1 HR1 HB1 ho2 hb2
  have HK2 := Lib.hid (HK1.out.ext hb2)
  have HR2 := Lib.hid (RdT.ext HR1.out hb2)
  have HB2 := Lib.hid (HB1.out.next hb2)
  have Hb12 := Lib.hid hb2
  have Ho2 := Lib.hid ho2
  have hg1W := HK1.out.lt
  clear hb2 ho2
  cases hra : rightA x
  · have h0 := Ho2.out.rd.len
    rw [putA_no hra] at h0
    obtain rfl : M2 = 0 := by simpa using h0.symm
    have HRt := Lib.hid (aRight_any x A1 n1 c1 w2 HR2.out false hra)
    have l2 := ldA_bk HK2.out
    clear h0 hra hg1W
    go_wp2_with fail
    with_reducible refine HRt.out.mono ?_
    rintro er w3 ⟨rfl, hb3⟩
    have HB3 := Lib.hid (HB2.out.next hb3)
    clear hb3
    go_wp2_with fail
    refine (askRuns_any _ (ErrLaid.below HL.out HB3.out.1)).mono ?_
    rintro er wz ⟨rfl, hbz⟩
    go_wp2_with fail
    go_ret
    exact ⟨rfl, (HB3.out.next hbz).1⟩
  · have Hra := Lib.hid hra
    have h6 := putA_len6 hra
    have h606 := putA_len x
    have hlen := Ho2.out.rd.len
    rw [hlen] at h6 h606
    clear hra
    rcases OwnB.open_ Ho2.out with ⟨hv, hnil⟩ | ⟨g, cap, hv, hg, hat⟩
    · injection hv with _ hM _
      omega
    · injection hv with hA hM hc
      subst hA hc
      have hcap : M2 ≤ c2 := Ho2.out.rd.cap
      have Hlen := Lib.hid hlen
      have HI2 : Hid (AbI w.heap.size w W1 g1 g x A1 n1 c1 M2 c2 w2) := ⟨HK2.out, HR2.out, hat, Ho2.out.rd, HB2.out, ⟨Hb12.out, Hb12.out.size⟩⟩
      have Hg := Lib.hid hg
      have hz6 : ¬ (M2 : Int) < 6 := by omega
      clear hM hlen hat hg HK2 HR2 HB2
      have HG5 := Lib.hid (aget_ok _ M2 c2 (putA x) w2 HI2.out.rp (by omega) x (getA_put Hra.out))
      go_wp2_with fail
      with_reducible refine HG5.out.mono ?_
      rintro er w5 ⟨A5, n5, c5, rfl, hr5, hb5, hp5⟩
      have hst5 := stA_newAt w5 w5.heap.size rfl x.corr x.kind x.topic x.group x.part x.parts x.first x.off x.most x.time x.bat.time x.bat.prod x.bat.seq A5 n5 c5 #[.int .i64 0, .int .i64 0, .string ⟨#[]⟩, .string ⟨#[]⟩, .int .i64 0, .int .i64 0, .int .i64 0, .int .i64 0, .int .i64 0, .int .i64 0, .int .i64 0, .int .i64 0, .int .i64 0, .slice none 0 0] rfl
      have hbn5 := below_new w5 (.cells #[.int .i64 x.corr, .int .i64 x.kind, .string x.topic, .string x.group, .int .i64 x.part, .int .i64 x.parts, .int .i64 x.first, .int .i64 x.off, .int .i64 x.most, .int .i64 x.time, .int .i64 x.bat.time, .int .i64 x.bat.prod, .int .i64 x.bat.seq, .slice A5 n5 c5] 47)
      have HKa := Lib.hid (Bk.made w5 47 #[.int .i64 x.corr, .int .i64 x.kind, .string x.topic, .string x.group, .int .i64 x.part, .int .i64 x.parts, .int .i64 x.first, .int .i64 x.off, .int .i64 x.most, .int .i64 x.time, .int .i64 x.bat.time, .int .i64 x.bat.prod, .int .i64 x.bat.seq, .slice A5 n5 c5])
      have hb25 := hb5.trans (below_le hb5.size hbn5)
      have HI5 := Lib.hid (HI2.out.ext hb25)
      have HRa := Lib.hid (RdT.ext hr5 hbn5)
      have Hpa := Lib.hid (show ∀ ad, A5 = some ad → ad.block ≠ g from fun ad e h => by
        have h1 := hp5 ad e
        have h2 := HI2.out.p.lt
        omega)
      have Hg2 := Lib.hid (Nat.lt_of_lt_of_le HI2.out.p.lt hb5.size)
      clear hr5 hb5 hbn5 hb25 hp5 HG5 HI2
      go_upto_region 6 with fail
      clear hst5
      generalize w5.heap.size = ga at HKa Hg2 ⊢
      generalize w5.alloc (.cells #[.int .i64 x.corr, .int .i64 x.kind, .string x.topic, .string x.group, .int .i64 x.part, .int .i64 x.parts, .int .i64 x.first, .int .i64 x.off, .int .i64 x.most, .int .i64 x.time, .int .i64 x.bat.time, .int .i64 x.bat.prod, .int .i64 x.bat.seq, .slice A5 n5 c5] 47) = W5 at HKa HI5 HRa ⊢
      obtain ⟨k, hk⟩ : ∃ k : Nat, within z 0 ((M2 : Int) - 1) = k := ⟨(within z 0 ((M2 : Int) - 1)).toNat, by have := within_in z 0 ((M2 : Int) - 1) (by omega); omega⟩
      have hkM : k < M2 := by have := within_in z 0 ((M2 : Int) - 1) (by omega); omega
      have hk1 : (k : Int) < (M2 : Int) := by omega
      have hk0 : (0 : Int) ≤ (k : Int) := by omega
      have hk2 : (k : Int) ≤ (c2 : Int) := by omega
      have hwr : wrap64 ((M2 : Int) - 1) = (M2 : Int) - 1 := IntWalk.wrap64_in _ ⟨by omega, by omega⟩
      have hW := within_any z 0 ((M2 : Int) - 1) W5 (by omega) (by omega) (by omega) hz.1 hz.2
      rw [hk] at hW
      have HW := Lib.hid hW
      obtain ⟨co7, hco7, hcut⟩ : ∃ co7, ((k < 6 ∧ co7 = 0) ∨ (6 ≤ k ∧ co7 = x.corr)) ∧ getA ((putA x).take k) = .error (co7, 3) := by
        by_cases h : k < 6
        · exact ⟨0, .inl ⟨h, rfl⟩, getA_short (by rw [List.length_take]; omega)⟩
        · exact ⟨x.corr, .inr ⟨by omega, rfl⟩, getA_cut Hra.out (by omega) (by rw [Hlen.out]; exact hkM)⟩
      have HG7 := Lib.hid (aget_err _ k c2 ((putA x).take k) W5 (RdB.upto HI5.out.rp k (Nat.le_of_lt hkM)) (by omega) co7 3 hcut)
      have Hco7 := Lib.hid hco7
      clear hk hW hcut hco7
      go_wp2_with fail
      with_reducible refine HW.out.mono ?_
      rintro er w6 ⟨rfl, rfl⟩
      go_wp2_with fail
      with_reducible refine HG7.out.mono ?_
      rintro er w7 ⟨Ab, nb, cb, vb, db, rfl, _, hdb, hkb, hb7⟩
      have hst7 := stA_newAt w7 w7.heap.size rfl co7 0 ⟨#[]⟩ ⟨#[]⟩ 0 0 0 0 0 0 0 0 0 Ab nb cb #[.int .i64 0, .int .i64 0, .string ⟨#[]⟩, .string ⟨#[]⟩, .int .i64 0, .int .i64 0, .int .i64 0, .int .i64 0, .int .i64 0, .int .i64 0, .int .i64 0, .int .i64 0, .int .i64 0, .slice none 0 0] rfl
      have hbn7 := below_new w7 (.cells #[.int .i64 co7, .int .i64 0, .string ⟨#[]⟩, .string ⟨#[]⟩, .int .i64 0, .int .i64 0, .int .i64 0, .int .i64 0, .int .i64 0, .int .i64 0, .int .i64 0, .int .i64 0, .int .i64 0, .slice Ab nb cb] 47)
      have hb77 := hb7.trans (below_le hb7.size hbn7)
      have HKb := Lib.hid (Bk.made w7 47 #[.int .i64 co7, .int .i64 0, .string ⟨#[]⟩, .string ⟨#[]⟩, .int .i64 0, .int .i64 0, .int .i64 0, .int .i64 0, .int .i64 0, .int .i64 0, .int .i64 0, .int .i64 0, .int .i64 0, .slice Ab nb cb])
      have HKa7 := Lib.hid (HKa.out.ext hb77)
      have HI7 := Lib.hid (HI5.out.ext hb77)
      have HRa7 := Lib.hid (RdT.ext HRa.out hb77)
      have Hg3 := Lib.hid (Nat.lt_of_lt_of_le HI5.out.p.lt hb7.size)
      have Hkb := Lib.hid hkb
      clear hb7 hbn7 hb77 hkb HG7 HI5 HKa HRa HW hwr hk0 hk1 hk2
      go_upto_region 8 with fail
      clear hst7
      generalize w7.heap.size = gb at HKb Hg3 ⊢
      generalize w7.alloc (.cells #[.int .i64 co7, .int .i64 0, .string ⟨#[]⟩, .string ⟨#[]⟩, .int .i64 0, .int .i64 0, .int .i64 0, .int .i64 0, .int .i64 0, .int .i64 0, .int .i64 0, .int .i64 0, .int .i64 0, .slice Ab nb cb] 47) = W7 at HKb HKa7 HI7 HRa7 ⊢
      have hbe := below_new W7 (.cells #[] 5)
      have Hemp := Lib.hid (OwnB.empty W7 W7.heap.size (Nat.le_refl _))
      have HP7 := Lib.hid (RdB.ext HI7.out.rp hbe)
      have Hbe := Lib.hid hbe
      clear hbe
      go_wp2_with (first | (at_builtin; refine wpList_append_bytes rfl (.tmp 56) (.tmp 57) rfl W7.heap.size W7 _ [] rfl Hemp.out _ M2 c2 (putA x) rfl HP7.out (by simp; omega) Hbe.out Hbe.out.size M2 (by simp) ?_; intro A9 c9 w9 ho9 hb9 hs9) | (at_builtin; refine wpList_append_bytes rfl (.tmp 58) (.tmp 60) rfl W7.heap.size W7 _ ([] ++ putA x) rfl (World.ownsRow.alloc ho9.out _) (some ⟨w9.heap.size, 0, none⟩) 1 1 [b0] rfl (RdB.const w9 [b0] _ rfl 5 (0, 0) 1 rfl (by omega)) (by rw [List.nil_append, Hlen.out]; omega) (hb9.alloc hs9 _) (by simp; omega) (M2 + 1) (by rw [List.nil_append, Hlen.out]) ?_; intro A10 c10 w10 ho10 hb10 hs10; have HO10 := Lib.hid (show RdB w10 A10 (M2 + 1) c10 (putA x ++ [b0]) from ho10.out.rd); have HB10 := Lib.hid hb10; clear ho9 ho10 hb9 hb10) | fail)
      refine (aget_err A10 (M2 + 1) c10 (putA x ++ [b0]) w10 HO10.out (by omega) x.corr 4 (getA_more Hra.out b0)).mono ?_
      rintro er w8' ⟨Ac, nc, cc, vc, dc, rfl, _, hdc, hkc, hb8⟩
      have hst8 := stA_newAt w8' w8'.heap.size rfl x.corr 0 ⟨#[]⟩ ⟨#[]⟩ 0 0 0 0 0 0 0 0 0 Ac nc cc #[.int .i64 0, .int .i64 0, .string ⟨#[]⟩, .string ⟨#[]⟩, .int .i64 0, .int .i64 0, .int .i64 0, .int .i64 0, .int .i64 0, .int .i64 0, .int .i64 0, .int .i64 0, .int .i64 0, .slice none 0 0] rfl
      have hbn8 := below_new w8' (.cells #[.int .i64 x.corr, .int .i64 0, .string ⟨#[]⟩, .string ⟨#[]⟩, .int .i64 0, .int .i64 0, .int .i64 0, .int .i64 0, .int .i64 0, .int .i64 0, .int .i64 0, .int .i64 0, .int .i64 0, .slice Ac nc cc] 47)
      have hb88 := HB10.out.trans (below_le hs10 (hb8.trans (below_le hb8.size hbn8)))
      have HKc := Lib.hid (Bk.made w8' 47 #[.int .i64 x.corr, .int .i64 0, .string ⟨#[]⟩, .string ⟨#[]⟩, .int .i64 0, .int .i64 0, .int .i64 0, .int .i64 0, .int .i64 0, .int .i64 0, .int .i64 0, .int .i64 0, .int .i64 0, .slice Ac nc cc])
      have HKb8 := Lib.hid (HKb.out.ext hb88)
      have HKa8 := Lib.hid (HKa7.out.ext hb88)
      have HI8 := Lib.hid (HI7.out.ext hb88)
      have HRa8 := Lib.hid (RdT.ext HRa7.out hb88)
      have Hg4 := Lib.hid (Nat.lt_of_lt_of_le HI7.out.p.lt (Nat.le_trans HB10.out.size (Nat.le_trans (Nat.le_refl _) hb8.size)))
      have Hkc := Lib.hid hkc
      clear hb8 hbn8 hb88 hkc HI7 HKb HKa7 HRa7 HO10 HB10 Hemp HP7 Hbe
      go_upto_region 9 with fail
      clear hst8
      generalize w8'.heap.size = gc at HKc Hg4 ⊢
      generalize w8'.alloc (.cells #[.int .i64 x.corr, .int .i64 0, .string ⟨#[]⟩, .string ⟨#[]⟩, .int .i64 0, .int .i64 0, .int .i64 0, .int .i64 0, .int .i64 0, .int .i64 0, .int .i64 0, .int .i64 0, .int .i64 0, .slice Ac nc cc] 47) = W8 at HKc HKb8 HKa8 HI8 HRa8 ⊢
      obtain ⟨u0, _, hc0⟩ := HI8.out.p.get (i := 0) (by rw [Hlen.out]; omega)
      have f0 := HI8.out.p.thaw 0
      have hm0 : (0 : Int) < (M2 : Int) := by omega
      have hbs := grown_set W8 ⟨g, 0, none⟩ (.int .u8 (w8 vv))
      have hbs8 := below_grown HI8.out.b.1 HI8.out.b.2 hbs (Nat.le_trans HB1.out.2 Hg.out)
      have hbW := below_grown HI8.out.b1.1 HI8.out.b1.2 hbs Hg.out
      have hset := HI8.out.p.put 0 vv
      have hlr : M2 = ((putA x).set 0 vv).length := by rw [List.length_set, Hlen.out]
      have HRs := Lib.hid (hset.whole M2 c2 hlr hcap Ho2.out.rd.big)
      have hgne : g1 ≠ g := by have := Hg.out; omega
      have hgna : ga ≠ g := by have := Hg2.out; omega
      have hgnb : gb ≠ g := by have := Hg3.out; omega
      have hgnc : gc ≠ g := by have := Hg4.out; omega
      have HA4 : Hid (Ab4 w.heap.size w g1 ga gb gc x A1 n1 c1 A5 n5 c5 co7 Ab nb cb Ac nc cc (W8.setCell ⟨g, 0, none⟩ (.int .u8 (w8 vv)))) :=
        ⟨HI8.out.k1.far (p := ⟨g, 0, none⟩) hgne _, RdT.ext HR1.out hbW, HKa8.out.far (p := ⟨g, 0, none⟩) hgna _, RdT.kept HRa8.out hbs (fun ad e e2 => Hpa.out ad e (Option.some.inj e2).symm), HKb8.out.far (p := ⟨g, 0, none⟩) hgnb _, HKc.out.far (p := ⟨g, 0, none⟩) hgnc _, ⟨hbs8, Nat.le_trans HI8.out.b.2 hbs.size⟩⟩
      clear hbs hbs8 hbW hset hlr hgne hgna hgnb hgnc HI8 HKa8 HRa8 HKb8 HKc Hpa Hg2 Hg3 Hg4 Ho2 HR1 HB1 HK1 Hb12 hg1W Hg
      go_upto_region 10 with fail
      clear hc0 f0
      generalize W8.setCell ⟨g, 0, none⟩ (.int .u8 (w8 vv)) = W9 at HA4 HRs ⊢
      by_cases hv : w8 vv = 1
      · have q1 : (w8 vv == 1) = true := by simp [hv]
        have hs1 : (putA x).set 0 vv = putA x := by
          rw [putA_eq Hra.out]
          show vv :: _ = (1 : UInt8) :: _
          rw [show vv = 1 from w8_inj (by rw [hv]; rfl)]
        have hrs := HRs.out
        rw [hs1] at hrs
        have HG := Lib.hid (aget_ok _ M2 c2 (putA x) W9 hrs (by omega) x (getA_put Hra.out))
        clear hv hs1 hrs HRs
        go_wp2_with fail
        with_reducible refine HG.out.mono ?_
        rintro er w10 ⟨Ad, nd, cd, rfl, _, hb10, _⟩
        have hst10 := stA_newAt w10 w10.heap.size rfl x.corr x.kind x.topic x.group x.part x.parts x.first x.off x.most x.time x.bat.time x.bat.prod x.bat.seq Ad nd cd #[.int .i64 0, .int .i64 0, .string ⟨#[]⟩, .string ⟨#[]⟩, .int .i64 0, .int .i64 0, .int .i64 0, .int .i64 0, .int .i64 0, .int .i64 0, .int .i64 0, .int .i64 0, .int .i64 0, .slice none 0 0] rfl
        have hbn10 := below_new w10 (.cells #[.int .i64 x.corr, .int .i64 x.kind, .string x.topic, .string x.group, .int .i64 x.part, .int .i64 x.parts, .int .i64 x.first, .int .i64 x.off, .int .i64 x.most, .int .i64 x.time, .int .i64 x.bat.time, .int .i64 x.bat.prod, .int .i64 x.bat.seq, .slice Ad nd cd] 47)
        have HKd := Lib.hid (Bk.made w10 47 #[.int .i64 x.corr, .int .i64 x.kind, .string x.topic, .string x.group, .int .i64 x.part, .int .i64 x.parts, .int .i64 x.first, .int .i64 x.off, .int .i64 x.most, .int .i64 x.time, .int .i64 x.bat.time, .int .i64 x.bat.prod, .int .i64 x.bat.seq, .slice Ad nd cd])
        have HA4' := Lib.hid (HA4.out.ext (hb10.trans (below_le hb10.size hbn10)))
        clear hb10 hbn10 HG HA4
        rcases Hco7.out with ⟨hk6, rfl⟩ | ⟨hk6, rfl⟩
        · have k1 : (k : Int) < 6 := by omega
          have k2 : ¬ (6 : Int) ≤ (k : Int) := by omega
          have k3 : decide ((k : Int) < 6) = true := decide_eq_true k1
          have k4 : decide ((6 : Int) ≤ (k : Int)) = false := decide_eq_false k2
          clear hk6
          have l11 := ldA_bk HA4'.out.ka
          have l9 := ldA_bk HA4'.out.k1
          have HAs := Lib.hid (asks_any x x A5 A1 n5 c5 n1 c1 true (sameAll_iff.2 rfl) _ HA4'.out.ra HA4'.out.rx)
          go_wp2_with fail
          with_reducible refine HAs.out.mono ?_
          rintro er wa ⟨rfl, hba⟩
          have HA4a := Lib.hid (HA4'.out.ext hba)
          have HKda := Lib.hid (HKd.out.ext hba)
          have HKb' := Lib.hid (kind_err3 Hkb.out hdb wa (ErrLaid.below HL.out HA4a.out.b.1))
          clear l11 l9 HAs hba HA4' HKd hst10
          go_wp2_with fail
          with_reducible refine HKb'.out.mono ?_
          rintro er wb ⟨rfl, hbb⟩
          have HA4b := Lib.hid (HA4a.out.ext hbb)
          have HKdb := Lib.hid (HKda.out.ext hbb)
          have e14 := HA4b.out.kb.cell 0
          have e9 := HA4b.out.k1.cell 0
          have HKc' := Lib.hid (kind_err3 Hkc.out hdc wb (ErrLaid.below HL.out HA4b.out.b.1))
          clear hbb HA4a HKda HKb'
          simp only [List.getElem?_toArray, List.getElem?_cons_zero] at e14 e9
          go_wp2_with fail
          with_reducible refine HKc'.out.mono ?_
          rintro er wc ⟨rfl, hbc⟩
          have HA4c := Lib.hid (HA4b.out.ext hbc)
          have HKdc := Lib.hid (HKdb.out.ext hbc)
          have e16 : wc.cell? ⟨gc, 0, none⟩ = some (.int .i64 x.corr) := HA4c.out.kc.cell 0
          have e9' : wc.cell? ⟨g1, 0, none⟩ = some (.int .i64 x.corr) := HA4c.out.k1.cell 0
          clear hbc HA4b HKdb HKc' e14 e9
          go_wp2_with fail
          refine (askRuns_any _ (ErrLaid.below HL.out HA4c.out.b.1)).mono ?_
          rintro er wz ⟨rfl, hbz⟩
          go_wp2_with fail
          go_ret
          exact ⟨rfl, (HA4c.out.b.next hbz).1⟩
        · have k1 : ¬ (k : Int) < 6 := by omega
          have k2 : (6 : Int) ≤ (k : Int) := by omega
          have k3 : decide ((k : Int) < 6) = false := decide_eq_false k1
          have k4 : decide ((6 : Int) ≤ (k : Int)) = true := decide_eq_true k2
          clear hk6
          by_cases hx0 : x.corr = 0
          · have q0 : (x.corr != 0) = false := by simp [hx0]
            clear hx0
            have l11 := ldA_bk HA4'.out.ka
            have l9 := ldA_bk HA4'.out.k1
            have HAs := Lib.hid (asks_any x x A5 A1 n5 c5 n1 c1 true (sameAll_iff.2 rfl) _ HA4'.out.ra HA4'.out.rx)
            go_wp2_with fail
            with_reducible refine HAs.out.mono ?_
            rintro er wa ⟨rfl, hba⟩
            have HA4a := Lib.hid (HA4'.out.ext hba)
            have HKda := Lib.hid (HKd.out.ext hba)
            have HKb' := Lib.hid (kind_err3 Hkb.out hdb wa (ErrLaid.below HL.out HA4a.out.b.1))
            clear l11 l9 HAs hba HA4' HKd hst10
            go_wp2_with fail
            with_reducible refine HKb'.out.mono ?_
            rintro er wb ⟨rfl, hbb⟩
            have HA4b := Lib.hid (HA4a.out.ext hbb)
            have HKdb := Lib.hid (HKda.out.ext hbb)
            have e14 := HA4b.out.kb.cell 0
            have e9 := HA4b.out.k1.cell 0
            have HKc' := Lib.hid (kind_err3 Hkc.out hdc wb (ErrLaid.below HL.out HA4b.out.b.1))
            clear hbb HA4a HKda HKb'
            simp only [List.getElem?_toArray, List.getElem?_cons_zero] at e14 e9
            go_wp2_with fail
            with_reducible refine HKc'.out.mono ?_
            rintro er wc ⟨rfl, hbc⟩
            have HA4c := Lib.hid (HA4b.out.ext hbc)
            have HKdc := Lib.hid (HKdb.out.ext hbc)
            have e16 : wc.cell? ⟨gc, 0, none⟩ = some (.int .i64 x.corr) := HA4c.out.kc.cell 0
            have e9' : wc.cell? ⟨g1, 0, none⟩ = some (.int .i64 x.corr) := HA4c.out.k1.cell 0
            clear hbc HA4b HKdb HKc' e14 e9
            go_wp2_with fail
            refine (askRuns_any _ (ErrLaid.below HL.out HA4c.out.b.1)).mono ?_
            rintro er wz ⟨rfl, hbz⟩
            go_wp2_with fail
            go_ret
            exact ⟨rfl, (HA4c.out.b.next hbz).1⟩
          · have q0 : (x.corr != 0) = true := by simp [hx0]
            clear hx0
            have l11 := ldA_bk HA4'.out.ka
            have l9 := ldA_bk HA4'.out.k1
            have HAs := Lib.hid (asks_any x x A5 A1 n5 c5 n1 c1 true (sameAll_iff.2 rfl) _ HA4'.out.ra HA4'.out.rx)
            go_wp2_with fail
            with_reducible refine HAs.out.mono ?_
            rintro er wa ⟨rfl, hba⟩
            have HA4a := Lib.hid (HA4'.out.ext hba)
            have HKda := Lib.hid (HKd.out.ext hba)
            have HKb' := Lib.hid (kind_err3 Hkb.out hdb wa (ErrLaid.below HL.out HA4a.out.b.1))
            clear l11 l9 HAs hba HA4' HKd hst10
            go_wp2_with fail
            with_reducible refine HKb'.out.mono ?_
            rintro er wb ⟨rfl, hbb⟩
            have HA4b := Lib.hid (HA4a.out.ext hbb)
            have HKdb := Lib.hid (HKda.out.ext hbb)
            have e14 := HA4b.out.kb.cell 0
            have e9 := HA4b.out.k1.cell 0
            have HKc' := Lib.hid (kind_err3 Hkc.out hdc wb (ErrLaid.below HL.out HA4b.out.b.1))
            clear hbb HA4a HKda HKb'
            simp only [List.getElem?_toArray, List.getElem?_cons_zero] at e14 e9
            go_wp2_with fail
            with_reducible refine HKc'.out.mono ?_
            rintro er wc ⟨rfl, hbc⟩
            have HA4c := Lib.hid (HA4b.out.ext hbc)
            have HKdc := Lib.hid (HKdb.out.ext hbc)
            have e16 : wc.cell? ⟨gc, 0, none⟩ = some (.int .i64 x.corr) := HA4c.out.kc.cell 0
            have e9' : wc.cell? ⟨g1, 0, none⟩ = some (.int .i64 x.corr) := HA4c.out.k1.cell 0
            clear hbc HA4b HKdb HKc' e14 e9
            go_wp2_with fail
            refine (askRuns_any _ (ErrLaid.below HL.out HA4c.out.b.1)).mono ?_
            rintro er wz ⟨rfl, hbz⟩
            go_wp2_with fail
            go_ret
            exact ⟨rfl, (HA4c.out.b.next hbz).1⟩
      · have q1 : (w8 vv == 1) = false := by simp [hv]
        have HG := Lib.hid (aget_err _ M2 c2 ((putA x).set 0 vv) W9 HRs.out (by omega) x.corr 14 (getA_ver Hra.out hv))
        clear hv HRs
        go_wp2_with fail
        with_reducible refine HG.out.mono ?_
        rintro er w10 ⟨Ad, nd, cd, vd, dd, rfl, _, hdd, hkd, hb10⟩
        have hst10 := stA_newAt w10 w10.heap.size rfl x.corr 0 ⟨#[]⟩ ⟨#[]⟩ 0 0 0 0 0 0 0 0 0 Ad nd cd #[.int .i64 0, .int .i64 0, .string ⟨#[]⟩, .string ⟨#[]⟩, .int .i64 0, .int .i64 0, .int .i64 0, .int .i64 0, .int .i64 0, .int .i64 0, .int .i64 0, .int .i64 0, .int .i64 0, .slice none 0 0] rfl
        have hbn10 := below_new w10 (.cells #[.int .i64 x.corr, .int .i64 0, .string ⟨#[]⟩, .string ⟨#[]⟩, .int .i64 0, .int .i64 0, .int .i64 0, .int .i64 0, .int .i64 0, .int .i64 0, .int .i64 0, .int .i64 0, .int .i64 0, .slice Ad nd cd] 47)
        have HKd := Lib.hid (Bk.made w10 47 #[.int .i64 x.corr, .int .i64 0, .string ⟨#[]⟩, .string ⟨#[]⟩, .int .i64 0, .int .i64 0, .int .i64 0, .int .i64 0, .int .i64 0, .int .i64 0, .int .i64 0, .int .i64 0, .int .i64 0, .slice Ad nd cd])
        have HA4' := Lib.hid (HA4.out.ext (hb10.trans (below_le hb10.size hbn10)))
        have Hkd := Lib.hid hkd
        have hn1 := hkd.ne_nil
        have hn2 := hkd.guard 127
        have hn3 := hkd.guard 131
        clear hb10 hbn10 HG HA4 hkd
        rcases Hco7.out with ⟨hk6, rfl⟩ | ⟨hk6, rfl⟩
        · have k1 : (k : Int) < 6 := by omega
          have k2 : ¬ (6 : Int) ≤ (k : Int) := by omega
          have k3 : decide ((k : Int) < 6) = true := decide_eq_true k1
          have k4 : decide ((6 : Int) ≤ (k : Int)) = false := decide_eq_false k2
          clear hk6
          have l11 := ldA_bk HA4'.out.ka
          have l9 := ldA_bk HA4'.out.k1
          have HAs := Lib.hid (asks_any x x A5 A1 n5 c5 n1 c1 true (sameAll_iff.2 rfl) _ HA4'.out.ra HA4'.out.rx)
          go_wp2_with fail
          with_reducible refine HAs.out.mono ?_
          rintro er wa ⟨rfl, hba⟩
          have HA4a := Lib.hid (HA4'.out.ext hba)
          have HKda := Lib.hid (HKd.out.ext hba)
          have HKb' := Lib.hid (kind_err3 Hkb.out hdb wa (ErrLaid.below HL.out HA4a.out.b.1))
          clear l11 l9 HAs hba HA4' HKd hst10
          go_wp2_with fail
          with_reducible refine HKb'.out.mono ?_
          rintro er wb ⟨rfl, hbb⟩
          have HA4b := Lib.hid (HA4a.out.ext hbb)
          have HKdb := Lib.hid (HKda.out.ext hbb)
          have e14 := HA4b.out.kb.cell 0
          have e9 := HA4b.out.k1.cell 0
          have HKc' := Lib.hid (kind_err3 Hkc.out hdc wb (ErrLaid.below HL.out HA4b.out.b.1))
          clear hbb HA4a HKda HKb'
          simp only [List.getElem?_toArray, List.getElem?_cons_zero] at e14 e9
          go_wp2_with fail
          with_reducible refine HKc'.out.mono ?_
          rintro er wc ⟨rfl, hbc⟩
          have HA4c := Lib.hid (HA4b.out.ext hbc)
          have HKdc := Lib.hid (HKdb.out.ext hbc)
          have e16 : wc.cell? ⟨gc, 0, none⟩ = some (.int .i64 x.corr) := HA4c.out.kc.cell 0
          have e9' : wc.cell? ⟨g1, 0, none⟩ = some (.int .i64 x.corr) := HA4c.out.k1.cell 0
          have HKd' := Lib.hid (kind_err3 Hkd.out hdd wc (ErrLaid.below HL.out HA4c.out.b.1))
          clear hbc HA4b HKdb HKc' e14 e9
          go_wp2_with fail
          with_reducible refine HKd'.out.mono ?_
          rintro er wd ⟨rfl, hbd⟩
          have HA4d := Lib.hid (HA4c.out.ext hbd)
          have e18 : wd.cell? ⟨w10.heap.size, 0, none⟩ = some (.int .i64 x.corr) := (HKdc.out.ext hbd).cell 0
          have e18' : wd.cell? ⟨w10.heap.size, 1, none⟩ = some (.int .i64 0) := (HKdc.out.ext hbd).cell 1
          have e9'' : wd.cell? ⟨g1, 0, none⟩ = some (.int .i64 x.corr) := HA4d.out.k1.cell 0
          clear hbd HA4c HKdc HKd' e16 e9'
          go_wp2_with fail
          refine (askRuns_any _ (ErrLaid.below HL.out HA4d.out.b.1)).mono ?_
          rintro er wz ⟨rfl, hbz⟩
          go_wp2_with fail
          go_ret
          exact ⟨rfl, (HA4d.out.b.next hbz).1⟩
        · have k1 : ¬ (k : Int) < 6 := by omega
          have k2 : (6 : Int) ≤ (k : Int) := by omega
          have k3 : decide ((k : Int) < 6) = false := decide_eq_false k1
          have k4 : decide ((6 : Int) ≤ (k : Int)) = true := decide_eq_true k2
          clear hk6
          by_cases hx0 : x.corr = 0
          · have q0 : (x.corr != 0) = false := by simp [hx0]
            clear hx0
            have l11 := ldA_bk HA4'.out.ka
            have l9 := ldA_bk HA4'.out.k1
            have HAs := Lib.hid (asks_any x x A5 A1 n5 c5 n1 c1 true (sameAll_iff.2 rfl) _ HA4'.out.ra HA4'.out.rx)
            go_wp2_with fail
            with_reducible refine HAs.out.mono ?_
            rintro er wa ⟨rfl, hba⟩
            have HA4a := Lib.hid (HA4'.out.ext hba)
            have HKda := Lib.hid (HKd.out.ext hba)
            have HKb' := Lib.hid (kind_err3 Hkb.out hdb wa (ErrLaid.below HL.out HA4a.out.b.1))
            clear l11 l9 HAs hba HA4' HKd hst10
            go_wp2_with fail
            with_reducible refine HKb'.out.mono ?_
            rintro er wb ⟨rfl, hbb⟩
            have HA4b := Lib.hid (HA4a.out.ext hbb)
            have HKdb := Lib.hid (HKda.out.ext hbb)
            have e14 := HA4b.out.kb.cell 0
            have e9 := HA4b.out.k1.cell 0
            have HKc' := Lib.hid (kind_err3 Hkc.out hdc wb (ErrLaid.below HL.out HA4b.out.b.1))
            clear hbb HA4a HKda HKb'
            simp only [List.getElem?_toArray, List.getElem?_cons_zero] at e14 e9
            go_wp2_with fail
            with_reducible refine HKc'.out.mono ?_
            rintro er wc ⟨rfl, hbc⟩
            have HA4c := Lib.hid (HA4b.out.ext hbc)
            have HKdc := Lib.hid (HKdb.out.ext hbc)
            have e16 : wc.cell? ⟨gc, 0, none⟩ = some (.int .i64 x.corr) := HA4c.out.kc.cell 0
            have e9' : wc.cell? ⟨g1, 0, none⟩ = some (.int .i64 x.corr) := HA4c.out.k1.cell 0
            have HKd' := Lib.hid (kind_err3 Hkd.out hdd wc (ErrLaid.below HL.out HA4c.out.b.1))
            clear hbc HA4b HKdb HKc' e14 e9
            go_wp2_with fail
            with_reducible refine HKd'.out.mono ?_
            rintro er wd ⟨rfl, hbd⟩
            have HA4d := Lib.hid (HA4c.out.ext hbd)
            have e18 : wd.cell? ⟨w10.heap.size, 0, none⟩ = some (.int .i64 x.corr) := (HKdc.out.ext hbd).cell 0
            have e18' : wd.cell? ⟨w10.heap.size, 1, none⟩ = some (.int .i64 0) := (HKdc.out.ext hbd).cell 1
            have e9'' : wd.cell? ⟨g1, 0, none⟩ = some (.int .i64 x.corr) := HA4d.out.k1.cell 0
            clear hbd HA4c HKdc HKd' e16 e9'
            go_wp2_with fail
            refine (askRuns_any _ (ErrLaid.below HL.out HA4d.out.b.1)).mono ?_
            rintro er wz ⟨rfl, hbz⟩
            go_wp2_with fail
            go_ret
            exact ⟨rfl, (HA4d.out.b.next hbz).1⟩
          · have q0 : (x.corr != 0) = true := by simp [hx0]
            clear hx0
            have l11 := ldA_bk HA4'.out.ka
            have l9 := ldA_bk HA4'.out.k1
            have HAs := Lib.hid (asks_any x x A5 A1 n5 c5 n1 c1 true (sameAll_iff.2 rfl) _ HA4'.out.ra HA4'.out.rx)
            go_wp2_with fail
            with_reducible refine HAs.out.mono ?_
            rintro er wa ⟨rfl, hba⟩
            have HA4a := Lib.hid (HA4'.out.ext hba)
            have HKda := Lib.hid (HKd.out.ext hba)
            have HKb' := Lib.hid (kind_err3 Hkb.out hdb wa (ErrLaid.below HL.out HA4a.out.b.1))
            clear l11 l9 HAs hba HA4' HKd hst10
            go_wp2_with fail
            with_reducible refine HKb'.out.mono ?_
            rintro er wb ⟨rfl, hbb⟩
            have HA4b := Lib.hid (HA4a.out.ext hbb)
            have HKdb := Lib.hid (HKda.out.ext hbb)
            have e14 := HA4b.out.kb.cell 0
            have e9 := HA4b.out.k1.cell 0
            have HKc' := Lib.hid (kind_err3 Hkc.out hdc wb (ErrLaid.below HL.out HA4b.out.b.1))
            clear hbb HA4a HKda HKb'
            simp only [List.getElem?_toArray, List.getElem?_cons_zero] at e14 e9
            go_wp2_with fail
            with_reducible refine HKc'.out.mono ?_
            rintro er wc ⟨rfl, hbc⟩
            have HA4c := Lib.hid (HA4b.out.ext hbc)
            have HKdc := Lib.hid (HKdb.out.ext hbc)
            have e16 : wc.cell? ⟨gc, 0, none⟩ = some (.int .i64 x.corr) := HA4c.out.kc.cell 0
            have e9' : wc.cell? ⟨g1, 0, none⟩ = some (.int .i64 x.corr) := HA4c.out.k1.cell 0
            have HKd' := Lib.hid (kind_err3 Hkd.out hdd wc (ErrLaid.below HL.out HA4c.out.b.1))
            clear hbc HA4b HKdb HKc' e14 e9
            go_wp2_with fail
            with_reducible refine HKd'.out.mono ?_
            rintro er wd ⟨rfl, hbd⟩
            have HA4d := Lib.hid (HA4c.out.ext hbd)
            have e18 : wd.cell? ⟨w10.heap.size, 0, none⟩ = some (.int .i64 x.corr) := (HKdc.out.ext hbd).cell 0
            have e18' : wd.cell? ⟨w10.heap.size, 1, none⟩ = some (.int .i64 0) := (HKdc.out.ext hbd).cell 1
            have e9'' : wd.cell? ⟨g1, 0, none⟩ = some (.int .i64 x.corr) := HA4d.out.k1.cell 0
            clear hbd HA4c HKdc HKd' e16 e9'
            go_wp2_with fail
            refine (askRuns_any _ (ErrLaid.below HL.out HA4d.out.b.1)).mono ?_
            rintro er wz ⟨rfl, hbz⟩
            go_wp2_with fail
            go_ret
            exact ⟨rfl, (HA4d.out.b.next hbz).1⟩
end Go.Proofs.YtpfdbbcfcimmfaaGreatDoor
