/-
  The walks of the laws CrcLinear and CrcParts.
-/
import Derived.Test.YtljpefpdpgalgaaCrcLaw2
namespace Go.Proofs.Ytljpefpdpgalgaa
open Go.RowKit CrcMath
attribute [local go_sem] xor_u32 xor_u8 not_u32 signed_u32 low_u32 xor_poly shr8_u32 shr16_u32 shr24_u32 shr1_u32 w8_nn w8_256

theorem min4 (ts : Array TypeId) (t : TypeId) (a b c : Nat) (k : Int) (hk : 0 ≤ k) : ∃ m : Nat, (∀ w, (Builtin.min_ ts t #[.int .i64 (a : Int), .int .i64 (b : Int), .int .i64 (c : Int), .int .i64 k]).run Try.prog w = .ok (.int .i64 (m : Int)) w) ∧
    m ≤ a ∧ m ≤ b ∧ m ≤ c ∧ (m : Int) ≤ k := by
  refine ⟨min (min (min a b) c) k.toNat, fun w => ?_, by omega, by omega, by omega, by omega⟩
  simp only [Builtin.min_, List.foldlM, Builtin.min2, Sem.run_pure, pure_bind]
  congr 2
  split <;> split <;> split <;> omega

theorem fill_step (X : List UInt8) (m k : Nat) (hX : X.length = m) (hk : k < m) (b : UInt8) (hb : X[k]? = some b) : (X.take k ++ rep (m - k) 0).set k b = X.take (k + 1) ++ rep (m - (k + 1)) 0 := by
  have hl : (X.take k).length = k := by rw [List.length_take]; omega
  rw [List.set_append_right _ _ (by omega), hl, Nat.sub_self, show m - k = (m - (k + 1)) + 1 by omega]
  unfold rep
  have hkx : k < X.length := by omega
  rw [List.replicate_succ, List.set_cons_zero, List.take_succ_eq_append_getElem hkx, List.append_assoc]
  have e : X[k] = b := by rw [List.getElem?_eq_getElem hkx] at hb; injection hb
  rw [e]; rfl
theorem mix_get (l m : List UInt8) (k : Nat) (x y : UInt8) (h1 : l[k]? = some x) (h2 : m[k]? = some y) : (mix l m)[k]? = some (x ^^^ y) := by
  unfold mix; rw [List.getElem?_zipWith, h1, h2]
theorem mix_len (l m : List UInt8) (n : Nat) (h1 : l.length = n) (h2 : m.length = n) : (mix l m).length = n := by unfold mix; rw [List.length_zipWith, h1, h2, Nat.min_self]
/-- the plain law -/
theorem linear_law (a b c : List UInt8) (n : Nat) (h1 : a.length = n) (h2 : b.length = n) (h3 : c.length = n) : on 0#32 a ^^^ on 0#32 b ^^^ on 0#32 c = on 0#32 (mix (mix a b) c) := by
  unfold on
  have e1 : fold (~~~ 0#32 ^^^ ~~~ 0#32 ^^^ ~~~ 0#32) (mix (mix a b) c) = fold (~~~ 0#32) a ^^^ fold (~~~ 0#32) b ^^^ fold (~~~ 0#32) c := by
    rw [fold_xor _ _ _ _ (by rw [mix_len a b n h1 h2, h3]), fold_xor _ _ _ _ (by rw [h1, h2])]
  rw [BitVec.xor_self, BitVec.zero_xor] at e1
  rw [e1]
  generalize fold (~~~ 0#32) a = p
  generalize fold (~~~ 0#32) b = q
  generalize fold (~~~ 0#32) c = r
  apply BitVec.eq_of_getLsbD_eq
  intro i hi
  simp only [BitVec.getLsbD_xor, BitVec.getLsbD_not, hi, decide_true, Bool.true_and]
  cases p.getLsbD i <;> cases q.getLsbD i <;> cases r.getLsbD i <;> rfl

set_option maxRecDepth 100000 in
set_option maxHeartbeats 1000000 in
theorem crcLinear_any {H : Type} {enc : TypeId × Value → H} {base : Nat} {v0 v1 v2 : Value} {d0 d1 d2 : DataW H} {p0 p1 p2 : List MemPlace} (w : World) (h0 : Came enc w base 26 v0 d0 p0) (h1 : Came enc w base 26 v1 d1 p1) (h2 : Came enc w base 26 v2 d2 p2) :
    Calls Try.prog 6 #[v0, v1, v2] w fun e w' => e = .returned (.bool true) ∧ Below w.heap.size w w' := by
  obtain ⟨A0, n0, c0, l0, rfl, hr0⟩ := h0.bytes
  obtain ⟨A1, n1, c1, l1, rfl, hr1⟩ := h1.bytes
  obtain ⟨A2, n2, c2, l2, rfl, hr2⟩ := h2.bytes
  clear h0 h1 h2
  obtain ⟨m, hmin, hm0, hm1, hm2, hm⟩ := min4 #[3, 3, 3, 3] 3 n0 n1 n2 60 (by omega)
  have hrx := hr0.upto m hm0
  have hry := hr1.upto m hm1
  have hrz := hr2.upto m hm2
  have hb0 : m ≤ c0 := Nat.le_trans hm0 hr0.cap
  have hb1 : m ≤ c1 := Nat.le_trans hm1 hr1.cap
  have hb2 : m ≤ c2 := Nat.le_trans hm2 hr2.cap
  have hg0 := hr0.big
  have hg1 := hr1.big
  have hg2 := hr2.big
  generalize l0.take m = L0 at hrx
  generalize l1.take m = L1 at hry
  generalize l2.take m = L2 at hrz
  clear hr0 hr1 hr2
  have hmk := mk_bytes m m rfl (by omega)
  go_enter Try.func6, Try.ntmps6
  go_wp2_with fail
  refine (make_any _).mono ?_
  rintro e w1 ⟨rfl, ht, hb1⟩
  have Ht := Lib.hid ht
  clear ht
  go_wp2_with fail
  have hX := Lib.hid (mix_len (mix L0 L1) L2 m (mix_len L0 L1 m hrx.len hry.len) hrz.len)
  have hlen0 := Lib.hid hrx.len
  have hlen1 := Lib.hid hry.len
  have hlen2 := Lib.hid hrz.len
  go_loopw [25] (fun i wr => ∃ k : Nat, k ≤ m ∧ i = .int .i64 k ∧ Hid (Bb wr w1.heap.size 5 ((mix (mix L0 L1) L2).take k ++ rep (m - k) 0)) ∧ Below w1.heap.size w1 wr) (fun i _ => m - (intOf i).toNat)
  case atStart => exact ⟨0, Nat.zero_le _, rfl, Bb.made w1 m, below_new _ _⟩
  case round =>
    obtain ⟨k, hk, rfl, hbk, hbel⟩ := hrel
    have hb01 := hb1.trans (hbel.mono hb1.size)
    by_cases hlt : k < m
    · have hi : (k : Int) < m := by omega
      have hi0 : (k : Int) < n0 := by omega
      have hi1 : (k : Int) < n1 := by omega
      have hi2 : (k : Int) < n2 := by omega
      obtain ⟨a0, x0, rfl, _, hx0, hc0⟩ := (hrx.ext hb01).get hlt
      obtain ⟨a1, x1, rfl, _, hx1, hc1⟩ := (hry.ext hb01).get hlt
      obtain ⟨a2, x2, rfl, _, hx2, hc2⟩ := (hrz.ext hb01).get hlt
      have hput := Lib.hid (hbk.out.put k (x0 ^^^ x1 ^^^ x2)).drawn1
      obtain ⟨y, _, hcy⟩ := hbk.out.get (i := k) (by rw [List.length_append, rep_len, List.length_take, hX.out]; omega)
      have hf := hbk.out.thaw k
      clear hrx hry hrz
      go_wp2
      go_region
      all_goals
        go_wp2
        go_roundw
        case rel =>
          refine ⟨k + 1, by omega, by go_num, ?_, below_drew1 (hbel.setCell (Nat.le_refl _) _)⟩
          have e := hput.out
          rw [fill_step _ m k hX.out hlt _ (mix_get _ _ _ _ _ (mix_get _ _ _ _ _ hx0.out hx1.out) hx2.out)] at e
          exact e
        case measure => simp [intOf]; omega
    · have hkm : k = m := by omega
      subst hkm
      have Hbk := hbk.out
      rw [← hX.out, List.take_length, hX.out, Nat.sub_self] at Hbk
      have hrX := Bb.whole Hbk k k (by show _ = (_ ++ []).length; rw [List.append_nil, hX.out]) (Nat.le_refl _) (by omega)
      have e0 : mix (mix L0 L1) L2 ++ rep 0 0 = mix (mix L0 L1) L2 := List.append_nil _
      rw [e0] at hrX
      have HT := (Ht.out.ext hbel)
      have s0 := Lib.hid fun t : Ext wr => ext_of_same (sum_any _ _ _ _ _ t.w (HT.ext t.below) (((hrx.ext hb01).ext t.below)))
      have s1 := Lib.hid fun t : Ext wr => ext_of_same (sum_any _ _ _ _ _ t.w (HT.ext t.below) (((hry.ext hb01).ext t.below)))
      have s2 := Lib.hid fun t : Ext wr => ext_of_same (sum_any _ _ _ _ _ t.w (HT.ext t.below) (((hrz.ext hb01).ext t.below)))
      have s3 := fun t : Ext wr => ext_of_same (sum_any _ _ _ _ _ t.w (HT.ext t.below) ((hrX.ext t.below)))
      rw [← linear_law L0 L1 L2 k hlen0.out hlen1.out hlen2.out] at s3
      have s3 := Lib.hid s3
      have HB := Lib.hid hb01
      clear hrx hry hrz hrX HT Hbk hbk hb01 hbel
      go_wp2_with fail
      refine wp_region_ext (by kernel_rfl) (by kernel_rfl) ?_
      repeat (go_big_quiet_step (first
        | (go_at_call 10; with_reducible exact s0.out _)
        | (go_at_call 10; with_reducible exact s1.out _)
        | (go_at_call 10; with_reducible exact s2.out _)
        | (go_at_call 10; with_reducible exact s3.out _)
        | (go_at_call 3; exact ext_of (crcRuns_any _))))
      refine wpQuiet_nil ?_
      intro _ hw'
      obtain ⟨t, hw''⟩ := hw'
      subst hw''
      go_wp2_with fail
      go_ret
      exact ⟨rfl, HB.out.trans (t.below.mono HB.out.size)⟩

/-- the first k pieces, each cut at 40 bytes, one behind the other -/
def pieces (ls : List (List UInt8)) (k : Nat) : List UInt8 := (ls.take k).flatMap (·.take 40)
theorem pieces_succ (ls : List (List UInt8)) (k : Nat) (l : List UInt8) (h : ls[k]? = some l) : pieces ls (k + 1) = pieces ls k ++ l.take 40 := by
  unfold pieces
  have hk : k < ls.length := (List.getElem?_eq_some_iff.1 h).1
  rw [List.take_succ_eq_append_getElem hk, List.flatMap_append]
  have e : ls[k] = l := (List.getElem?_eq_some_iff.1 h).2
  rw [e]; simp
theorem RdL.get {w : World} {A : Option Addr} {n c : Nat} {ls : List (List UInt8)} (h : RdL w A n c ls) {k : Nat} (hk : k < n) : ∃ ad A' n' c' l, A = some ad ∧ Hid (ls[k]? = some l) ∧ w.cell? (ad.add k) = some (.slice A' n' c') ∧ RdB w A' n' c' l := by
  have hl : k < ls.length := by have := h.1; omega
  obtain ⟨ad, A', n', c', h1, _, h3, h4⟩ := h.2.2.2 k ls[k] (List.getElem?_eq_getElem hl)
  exact ⟨ad, A', n', c', ls[k], h1, List.getElem?_eq_getElem hl, h3, h4⟩
theorem RdL.ext {w w' : World} {A : Option Addr} {n c : Nat} {ls : List (List UInt8)} (h : RdL w A n c ls) (hb : Below w.heap.size w w') : RdL w' A n c ls :=
  ⟨h.1, h.2.1, h.2.2.1, fun k l hk => by
    obtain ⟨ad, A', n', c', h1, h2, h3, h4⟩ := h.2.2.2 k l hk
    exact ⟨ad, A', n', c', h1, Nat.lt_of_lt_of_le h2 hb.size, (hb.cell (by rw [add_block]; exact h2)).trans h3, h4.ext hb⟩⟩

set_option maxRecDepth 100000 in
set_option maxHeartbeats 1000000 in
theorem crcParts_any {H : Type} {enc : TypeId × Value → H} {base : Nat} {v0 : Value} {d0 : DataW H} {p0 : List MemPlace} (w : World) (h0 : Came enc w base 36 v0 d0 p0) :
    Calls Try.prog 7 #[v0] w fun e w' => e = .returned (.bool true) ∧ Below w.heap.size w w' := by
  obtain ⟨A, n, c, ls, rfl, hr⟩ := h0.rows
  clear h0
  have hcap := hr.2.1
  have hbig := hr.2.2.1
  go_enter Try.func7, Try.ntmps7
  go_wp2_with fail
  refine (make_any _).mono ?_
  rintro e w1 ⟨rfl, ht, hb1⟩
  have Ht := Lib.hid ht
  have hr1 := Lib.hid (hr.ext hb1)
  clear ht hr
  go_wp2_with fail
  go_loopw [4, 5, 6] (fun a s i wr => ∃ (k N : Nat) (A' : Option Addr) (c' : Nat), k ≤ n ∧ k ≤ 10 ∧ i = .int .i64 k ∧ s = .int .u32 (w32 (on 0#32 (pieces ls k))) ∧ a = .slice A' N c' ∧ N ≤ 40 * k ∧ Hid ((pieces ls k).length = N) ∧
    Hid (OwnB wr w1.heap.size (.slice A' N c') (pieces ls k)) ∧ Below w1.heap.size w1 wr ∧ w1.heap.size ≤ wr.heap.size) (fun _ _ i _ => 10 - (intOf i).toNat)
  case atStart =>
    refine ⟨0, 0, none, 0, Nat.zero_le _, Nat.zero_le _, rfl, ?_, rfl, Nat.zero_le _, rfl, OwnB.nil _ _, Below.refl _ _, Nat.le_refl _⟩
    show _ = Value.int .u32 (w32 (on 0#32 []))
    rw [on_nil]; rfl
  case round =>
    obtain ⟨k, N, A', c', hk, hk10, rfl, rfl, rfl, hN, hNl, hown, hbel, hsz⟩ := hrel
    by_cases hlt : k < n
    · have hi : (k : Int) < n := by omega
      have t0 : decide ((k : Int) < n) = true := by simpa using hi
      by_cases hlt10 : k < 10
      · have hi10 : (k : Int) < 10 := by omega
        obtain ⟨ad, B1, n1, c1, l, rfl, hlk, hcell, hrl⟩ := (hr1.out.ext hbel).get hlt
        obtain ⟨m, hmin, hmn, hm, hm'⟩ := cut_min n1 40 (by omega)
        have hrm := hrl.upto m hmn
        have e40 : l.take m = l.take 40 := by
          have h1 := hrl.len
          rcases hm'.out with h | h
          · rw [List.take_of_length_le (by omega), List.take_of_length_le (by omega)]
          · rw [show m = 40 by omega]
        have hmc : m ≤ c1 := Nat.le_trans hmn hrl.cap
        have hc1 := hrl.big
        have hP := pieces_succ ls k l hlk.out
        rw [← e40] at hP
        generalize l.take m = L at hrm hP
        clear e40 hrl
        have hlen := Lib.hid hrm.len
        have hOn := fun q : Nat => on_any w.heap.size (on 0#32 (pieces ls k)) B1 m c1 L (wr.drewN q) ((Ht.out.ext hbel).drawnN q) (hrm.drawn q)
        rw [← on_append, ← hP] at hOn
        have HOn := Lib.hid hOn
        have HP := Lib.hid hP
        have Hrm := Lib.hid hrm
        clear hOn hP hrm
        go_wp2_with fail
        go_quiet (fail)
        go_wp2_with fail
        refine (HOn.out _).mono ?_
        rintro e w2 ⟨rfl, rfl⟩
        go_wp2_with (at_builtin; refine wpList_append_bytes rfl (.tmp 36) (.tmp 37) rfl w1.heap.size w1 _ (pieces ls k) rfl (show OwnB (wr.drewN _) w1.heap.size _ _ from hown.out) B1 m c1 L rfl (Hrm.out.drawn _) (by rw [hNl.out]; omega) (below_drawn hbel _) hsz (N + m) (by rw [hNl.out]) ?_; intro A5 c5 w5 hown5 hb5 hB5)
        have HN5 : Hid ((pieces ls (k + 1)).length = N + m) := by rw [HP.out, List.length_append, hNl.out, hlen.out]; rfl
        rw [← HP.out] at hown5
        have hrd5 : RdB w5 A5 (N + m) c5 (pieces ls (k + 1)) := by
          obtain ⟨A', c', e, hq⟩ := hown5.out.reads
          injection e with e1 e2 e3
          subst e1 e3
          rw [← e2] at hq
          exact hq
        refine (sum_any _ _ _ _ _ _ (Ht.out.ext hb5) hrd5).mono ?_
        rintro e w6 ⟨rfl, rfl⟩
        clear hrd5
        go_wp2_with fail
        go_roundw
        case rel => exact ⟨k + 1, N + m, A5, c5, by omega, by omega, by go_num, rfl, rfl, by omega, HN5, hown5, hb5, hB5⟩
        case measure => simp [intOf]; omega
      · have hk : k = 10 := by omega
        subst hk
        go_wp2_with fail
        have hOn := on_any w.heap.size (on 0#32 (pieces ls 10)) none 0 0 [] wr (Ht.out.ext hbel) (RdB.nil _)
        rw [on_nil] at hOn
        refine hOn.mono ?_
        clear hOn
        rintro e w2 ⟨rfl, rfl⟩
        go_wp2_with fail
        refine (crcRuns_any _).mono ?_
        rintro e w3 ⟨rfl, hb3⟩
        go_wp2_with fail
        go_ret
        exact ⟨rfl, (hb1.trans (hbel.mono hb1.size)).trans (hb3.mono (hb1.trans (hbel.mono hb1.size)).size)⟩
    · have t0 : decide ((k : Int) < n) = false := by simp; omega
      go_wp2_with fail
      have hOn := on_any w.heap.size (on 0#32 (pieces ls k)) none 0 0 [] wr (Ht.out.ext hbel) (RdB.nil _)
      rw [on_nil] at hOn
      refine hOn.mono ?_
      clear hOn
      rintro e w2 ⟨rfl, rfl⟩
      go_wp2_with fail
      refine (crcRuns_any _).mono ?_
      rintro e w3 ⟨rfl, hb3⟩
      go_wp2_with fail
      go_ret
      exact ⟨rfl, (hb1.trans (hbel.mono hb1.size)).trans (hb3.mono (hb1.trans (hbel.mono hb1.size)).size)⟩
end Go.Proofs.Ytljpefpdpgalgaa
