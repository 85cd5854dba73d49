/-
  gram: the cursor's text.
-/
import Derived.Test.YtpfdbbcfcimmfaaGreatDoorECur
import Derived.Test.YtpfdbbcfcimmfaaGreatDoorEVal
namespace Go.Proofs.YtpfdbbcfcimmfaaGreatDoor
open Go.RowKit
attribute [local go_sem] w8_nn w8_256 wrap_i64_w8 wrap64_w8 pastA_zero pastA_some
attribute [local go_sem ↓] sliced_past

theorem getN_err {size : Nat} {lo hi : Int} {bs : List UInt8} {k : Int} (h : getN size lo hi bs = .error k) : k = 2 ∨ k = 3 := by
  unfold getN at h
  split at h
  · injection h with h; exact .inr h.symm
  · split at h
    · cases h
    · injection h with h; exact .inl h.symm
theorem getT_err {lo hi : Int} {bs : List UInt8} {k : Int} (h : getT lo hi bs = .error k) : k = 2 ∨ k = 3 := by
  unfold getT at h
  split at h
  · rename_i k' hn
    injection h with h
    subst h
    exact getN_err hn
  · split at h
    · injection h with h; exact .inr h.symm
    · cases h
/-- what a number's reading does -/
def NumR (size : Nat) (lo hi : Int) (l : List UInt8) (p : Nat) (m : Int) (p' : Nat) (b' : Int) : Prop :=
  (∃ r, getN size lo hi (l.drop p) = .ok (m, r) ∧ b' = 0 ∧ r = l.drop p' ∧ p' = p + size ∧ 0 ≤ m ∧ m ≤ hi) ∨ (getN size lo hi (l.drop p) = .error b' ∧ b' ≠ 0 ∧ m = 0 ∧ p' = p)
theorem num_r (g : Nat) (A : Option Addr) (n c : Nat) (l : List UInt8) (p : Nat) (size : Nat) (sz lo hi : Int) (hsz : sz = size) (w : World) (hr : RdB w A n c l) (hc : Cur w g A n c p 0) (hp : p ≤ n) (hs : size ≤ 8) (hlo : 0 ≤ lo) (hlh : lo ≤ hi) (hhi : hi ≤ 9223372036854775807) :
    Calls Tryz.prog 115 #[.pointer (some ⟨g, 0, none⟩), .int .i64 sz, .int .i64 lo, .int .i64 hi] w fun e w' => ∃ (m : Int) (p' : Nat) (b' : Int), e = .returned (.int .i64 m) ∧ Cur w' g A n c p' b' ∧ w.grownBy w' (some g) ∧ p' ≤ n ∧ NumR size lo hi l p m p' b' := by
  subst hsz
  refine (num_any g A n c l p 0 size lo hi w hr hc hp hs hlo hlh hhi).mono ?_
  rintro e w' ⟨rfl, h2, h3⟩
  have hlen := hr.len
  unfold numS at h2 ⊢
  rw [if_pos rfl] at h2 ⊢
  cases hg : getN size lo hi (l.drop p) with
  | ok x =>
    obtain ⟨m, r⟩ := x
    rw [hg] at h2
    obtain ⟨a1, a2, a3, a4⟩ := getN_inv hg
    have hln := congrArg List.length a4
    rw [List.length_drop, List.length_append, leB_len] at hln
    refine ⟨m, p + size, 0, rfl, h2, h3, by omega, .inl ⟨r, hg, rfl, ?_, rfl, a1, a3⟩⟩
    rw [← List.drop_drop, a4, List.drop_append_of_le_length (by rw [leB_len]; omega), List.drop_of_length_le (by rw [leB_len]; omega), List.nil_append]
  | error k =>
    rw [hg] at h2
    have := getN_err hg
    exact ⟨0, p, k, rfl, h2, h3, hp, .inr ⟨hg, by omega, rfl, rfl⟩⟩
/-- what a text's reading does -/
def TextR (lo hi : Int) (l : List UInt8) (p : Nat) (s : ByteArray) (p' : Nat) (b' : Int) : Prop :=
  (∃ r, getT lo hi (l.drop p) = .ok (s, r) ∧ b' = 0 ∧ r = l.drop p') ∨ (getT lo hi (l.drop p) = .error b' ∧ b' ≠ 0)
theorem Cur.c0 {w : World} {g : Nat} {A : Option Addr} {n c p : Nat} {bad : Int} (h : Cur w g A n c p bad) : w.cell? ⟨g, 0, none⟩ = some (.slice A n c) := Bk.cell h 0
theorem Cur.c1 {w : World} {g : Nat} {A : Option Addr} {n c p : Nat} {bad : Int} (h : Cur w g A n c p bad) : w.cell? ⟨g, 1, none⟩ = some (.int .i64 p) := Bk.cell h 1
theorem Cur.c2 {w : World} {g : Nat} {A : Option Addr} {n c p : Nat} {bad : Int} (h : Cur w g A n c p bad) : w.cell? ⟨g, 2, none⟩ = some (.int .i64 bad) := Bk.cell h 2
theorem RdB.grown {w w' : World} {A : Option Addr} {n c : Nat} {l : List UInt8} {g : Nat} (h : RdB w A n c l) (hg : w.grownBy w' (some g)) (hA : ∀ ad, A = some ad → 0 < n → ad.block ≠ g) : RdB w' A n c l :=
  ⟨Rd.len h, Rd.cap h, Rd.big h, fun k u hu => by
    obtain ⟨ad, e, hlt, hc⟩ := Rd.cell h k u hu
    exact ⟨ad, e, Nat.lt_of_lt_of_le hlt hg.size, hg.cell hc (fun e2 => hA ad e (by have := (List.getElem?_eq_some_iff.1 hu).1; have := Rd.len h; omega) (by rw [add_block] at e2; exact Option.some.inj e2))⟩⟩
set_option maxRecDepth 100000 in
set_option maxHeartbeats 1000000 in
theorem text_bad (g : Nat) (A : Option Addr) (n c : Nat) (l : List UInt8) (p : Nat) (bad : Int) (hb : bad ≠ 0) (lo hi : Int) (w : World) (hr : RdB w A n c l) (hc : Cur w g A n c p bad) (hp : p ≤ n) (hlo : 0 ≤ lo) (hlh : lo ≤ hi) (hhi : hi ≤ 65535) :
    Calls Tryz.prog 116 #[.pointer (some ⟨g, 0, none⟩), .int .i64 lo, .int .i64 hi] w fun e w' => e = .returned (.string ⟨#[]⟩) ∧ Cur w' g A n c p bad ∧ w.grownBy w' (some g) := by
  have hN := num_any g A n c l p bad 2 lo hi w hr hc hp (by omega) hlo hlh (by omega)
  have e : numS 2 lo hi l p bad = (0, p, bad) := by unfold numS; rw [if_neg hb]
  rw [e] at hN
  have HN := Lib.hid hN
  have hb1 : (bad == 0) = false := by simp [hb]
  have hb2 : (bad != 0) = true := by rw [bne_iff_ne]; exact hb
  clear hN e hc
  go_enter Tryz.func116, Tryz.ntmps116
  go_wp2_with fail
  refine HN.out.mono ?_
  rintro e w1 ⟨rfl, hc1, hg1⟩
  have c2 := Cur.c2 hc1
  have HC1 := Lib.hid hc1
  clear hc1
  go_wp2_with fail
  go_quiet (fail)
  go_wp2_with fail
  go_ret
  exact ⟨rfl, HC1.out.drawn _, hg1.trans ((grown_of_below (below_drawn (Below.refl _ _) _)).but _)⟩
set_option maxRecDepth 100000 in
set_option maxHeartbeats 2000000 in
theorem text_ok (g : Nat) (A : Option Addr) (n c : Nat) (l : List UInt8) (p : Nat) (lo hi : Int) (w : World) (hr : RdB w A n c l) (hc : Cur w g A n c p 0) (hA : ∀ ad, A = some ad → 0 < n → ad.block ≠ g) (hp : p ≤ n) (hlo : 0 ≤ lo) (hlh : lo ≤ hi) (hhi : hi ≤ 65535) :
    Calls Tryz.prog 116 #[.pointer (some ⟨g, 0, none⟩), .int .i64 lo, .int .i64 hi] w fun e w' => ∃ (s : ByteArray) (p' : Nat) (b' : Int), e = .returned (.string s) ∧ Cur w' g A n c p' b' ∧ w.grownBy w' (some g) ∧ p' ≤ n ∧ TextR lo hi l p s p' b' := by
  have HN := Lib.hid (num_r g A n c l p 2 2 lo hi rfl w hr hc hp (by omega) hlo hlh (by omega))
  have HRd := Lib.hid hr
  have hbig := hr.big
  have hcap := hr.cap
  have hlen := Lib.hid hr.len
  clear hc hr
  go_enter Tryz.func116, Tryz.ntmps116
  go_wp2_with fail
  refine HN.out.mono ?_
  rintro e w1 ⟨m, p1, b1, rfl, hc1, hg1, hp1, hnr⟩
  have c0 := Cur.c0 hc1
  have c1 := Cur.c1 hc1
  have c2 := Cur.c2 hc1
  have f2 := Bk.thaw hc1 2
  have f1 := Bk.thaw hc1 1
  have HC1 := Lib.hid hc1
  have HG1 := Lib.hid hg1
  clear hc1 hg1 HN
  rcases hnr with ⟨r, hn1, rfl, rfl, rfl, hm0, hm1⟩ | ⟨hn1, hb1, rfl, rfl⟩
  · obtain ⟨k, rfl⟩ := Int.eq_ofNat_of_zero_le hm0
    have hw1 : IntKind.i64.wrap ((n : Int) - ((p + 2 : Nat) : Int)) = (n : Int) - ((p + 2 : Nat) : Int) := by rw [IntKind.wrap_i64]; omega
    have HL2 := Lib.hid (show (l.drop (p + 2)).length = n - (p + 2) by rw [List.length_drop, hlen.out])
    have Hn1 := Lib.hid hn1
    clear hn1
    obtain ⟨q, hq⟩ : ∃ q, p + 2 = q := ⟨_, rfl⟩
    rw [hq] at c1 hw1 HC1 hp1 HL2 Hn1
    by_cases hsh : n - q < k
    · have hi1 : (n : Int) - (q : Int) < (k : Int) := by omega
      go_wp2_with fail
      go_quiet (fail)
      go_wp2_with fail
      go_ret
      refine ⟨⟨#[]⟩, q, 3, rfl, (HC1.out.drawn _).put 2 _, HG1.out.trans ((grown_of_below (below_drawn (Below.refl _ _) _)).but _ |>.trans (grown_set _ ⟨g, 2, none⟩ _)), hp1, .inr ⟨?_, by omega⟩⟩
      unfold getT
      rw [Hn1.out]
      simp only [Int.toNat_natCast]
      rw [if_pos (by rw [HL2.out]; omega)]
    · have hi1 : (k : Int) ≤ (n : Int) - (q : Int) := by omega
      have hw2 : IntKind.i64.wrap ((q : Int) + (k : Int)) = ((q + k : Nat) : Int) := by rw [IntKind.wrap_i64]; omega
      go_wp2_with fail
      go_quiet (fail)
      go_wp2_with fail
      have hg2 : w1.grownBy ((w1.drewN nq).setCell ⟨g, 1, none⟩ (.int .i64 ((q : Int) + (k : Int)))) (some g) := ((grown_of_below (below_drawn (Below.refl _ _) _)).but _).trans (grown_set _ ⟨g, 1, none⟩ _)
      refine wp_cut (fun w' => Bk w' g 117 #[.slice A n c, .int .i64 ((q : Int) + (k : Int)), .int .i64 0] ∧ w1.grownBy w' (some g)) ⟨(HC1.out.drawn _).put 1 _, hg2⟩ ?_
      clear hg2 c0 c1 c2 f1 f2 hw1
      rintro w2 ⟨hk2, hg3⟩
      have d0 : w2.cell? ⟨g, 0, none⟩ = some (.slice A n c) := hk2.cell 0
      have d1 : w2.cell? ⟨g, 1, none⟩ = some (.int .i64 ((q : Int) + (k : Int))) := hk2.cell 1
      have HG3 := Lib.hid (HG1.out.trans hg3)
      have HK2 := Lib.hid hk2
      have hr2 := HRd.out.grown HG3.out hA
      have hcv := fun t => conv_any (RdB.drawn ((hr2.past' q hp1).upto k (by omega)) t)
      have hw3 : IntKind.i64.wrap ((q : Int) + (k : Int) - (k : Int)) = (q : Int) := by rw [IntKind.wrap_i64]; omega
      have hw4 : IntKind.i64.wrap (q : Int) = (q : Int) := by rw [IntKind.wrap_i64]; omega
      have hq1 : (q : Int) ≤ (q : Int) + (k : Int) := by omega
      have hq2 : (q : Int) + (k : Int) ≤ (c : Int) := by omega
      have hq3 : q + k ≤ c := by omega
      have hN : ((q : Int) + (k : Int)).toNat = q + k := by omega
      clear hr2 hk2 hg3
      go_wp2_with fail
      go_quiet (fail)
      go_wp2_with fail
      go_ret
      refine ⟨_, q + k, 0, rfl, HK2.out.drawn _, HG3.out.trans ((grown_of_below (below_drawn (Below.refl _ _) _)).but _), by omega, .inl ⟨l.drop (q + k), ?_, rfl, rfl⟩⟩
      unfold getT
      rw [Hn1.out]
      simp only [Int.toNat_natCast]
      rw [if_neg (by rw [HL2.out]; omega), List.drop_drop]
  · have hb2 : (b1 == 0) = false := by simp [hb1]
    have hb3 : (b1 != 0) = true := by rw [bne_iff_ne]; exact hb1
    have Hn1 := Lib.hid hn1
    clear hn1 hb1
    go_wp2_with fail
    go_quiet (fail)
    go_wp2_with fail
    go_ret
    refine ⟨⟨#[]⟩, _, b1, rfl, HC1.out.drawn _, HG1.out.trans ((grown_of_below (below_drawn (Below.refl _ _) _)).but _), hp1, .inr ⟨?_, by simpa using hb3⟩⟩
    unfold getT
    rw [Hn1.out]
end Go.Proofs.YtpfdbbcfcimmfaaGreatDoor
