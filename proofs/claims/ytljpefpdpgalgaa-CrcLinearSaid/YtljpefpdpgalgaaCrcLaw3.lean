/-
  The walks of the laws CrcLinear and CrcParts.
-/
import Derived.Test.YtljpefpdpgalgaaCrcLaw2
namespace Go.Proofs.Ytljpefpdpgalgaa
open Go.RowKit CrcMath
attribute [local go_sem] xor_u32 xor_u8 not_u32 signed_u32 low_u32 xor_poly shr8_u32 shr16_u32 shr24_u32 shr1_u32 w8_nn w8_256

theorem min4 (ts : Array TypeId) (t : TypeId) (a b c : Nat) (k : Int) (hk : 0 ≤ k) : ∃ m : Nat, (∀ w, (Builtin.min_ ts t #[.int .i64 (a : Int), .int .i64 (b : Int), .int .i64 (c : Int), .int .i64 k]).run Try.prog w = .ok (.int .i64 (m : Int)) w) ∧
    m ≤ a ∧ m ≤ b ∧ m ≤ c ∧ (m : Int) ≤ k := by
  refine ⟨min (min (min a b) c) k.toNat, fun w => ?_, by omega, by omega, by omega, by omega⟩
  simp only [Builtin.min_, List.foldlM, Builtin.min2, Sem.run_pure, pure_bind]
  congr 2
  split <;> split <;> split <;> omega

theorem fill_step (X : List UInt8) (m k : Nat) (hX : X.length = m) (hk : k < m) (b : UInt8) (hb : X[k]? = some b) : (X.take k ++ rep (m - k) 0).set k b = X.take (k + 1) ++ rep (m - (k + 1)) 0 := by
  have hl : (X.take k).length = k := by rw [List.length_take]; omega
  rw [List.set_append_right _ _ (by omega), hl, Nat.sub_self, show m - k = (m - (k + 1)) + 1 by omega]
  unfold rep
  have hkx : k < X.length := by omega
  rw [List.replicate_succ, List.set_cons_zero, List.take_succ_eq_append_getElem hkx, List.append_assoc]
  have e : X[k] = b := by rw [List.getElem?_eq_getElem hkx] at hb; injection hb
  rw [e]; rfl
theorem mix_get (l m : List UInt8) (k : Nat) (x y : UInt8) (h1 : l[k]? = some x) (h2 : m[k]? = some y) : (mix l m)[k]? = some (x ^^^ y) := by
  unfold mix; rw [List.getElem?_zipWith, h1, h2]
theorem mix_len (l m : List UInt8) (n : Nat) (h1 : l.length = n) (h2 : m.length = n) : (mix l m).length = n := by unfold mix; rw [List.length_zipWith, h1, h2, Nat.min_self]
/-- the plain law -/
theorem linear_law (a b c : List UInt8) (n : Nat) (h1 : a.length = n) (h2 : b.length = n) (h3 : c.length = n) : on 0#32 a ^^^ on 0#32 b ^^^ on 0#32 c = on 0#32 (mix (mix a b) c) := by
  unfold on
  have e1 : fold (~~~ 0#32 ^^^ ~~~ 0#32 ^^^ ~~~ 0#32) (mix (mix a b) c) = fold (~~~ 0#32) a ^^^ fold (~~~ 0#32) b ^^^ fold (~~~ 0#32) c := by
    rw [fold_xor _ _ _ _ (by rw [mix_len a b n h1 h2, h3]), fold_xor _ _ _ _ (by rw [h1, h2])]
  rw [BitVec.xor_self, BitVec.zero_xor] at e1
  rw [e1]
  generalize fold (~~~ 0#32) a = p
  generalize fold (~~~ 0#32) b = q
  generalize fold (~~~ 0#32) c = r
  apply BitVec.eq_of_getLsbD_eq
  intro i hi
  simp only [BitVec.getLsbD_xor, BitVec.getLsbD_not, hi, decide_true, Bool.true_and]
  cases p.getLsbD i <;> cases q.getLsbD i <;> cases r.getLsbD i <;> rfl

set_option maxRecDepth 100000 in
set_option maxHeartbeats 1000000 in
theorem crcLinear_any {H : Type} {enc : TypeId × Value → H} {base : Nat} {v0 v1 v2 : Value} {d0 d1 d2 : DataW H} {p0 p1 p2 : List MemPlace} (w : World) (h0 : Came enc w base 26 v0 d0 p0) (h1 : Came enc w base 26 v1 d1 p1) (h2 : Came enc w base 26 v2 d2 p2) :
    Calls Try.prog 6 #[v0, v1, v2] w fun e w' => e = .returned (.bool true) ∧ Below w.heap.size w w' := by
  obtain ⟨A0, n0, c0, l0, rfl, hr0⟩ := h0.bytes
  obtain ⟨A1, n1, c1, l1, rfl, hr1⟩ := h1.bytes
  obtain ⟨A2, n2, c2, l2, rfl, hr2⟩ := h2.bytes
  clear h0 h1 h2
  obtain ⟨m, hmin, hm0, hm1, hm2, hm⟩ := min4 #[3, 3, 3, 3] 3 n0 n1 n2 60 (by omega)
  have hrx := hr0.upto m hm0
  have hry := hr1.upto m hm1
  have hrz := hr2.upto m hm2
  have hb0 : m ≤ c0 := Nat.le_trans hm0 hr0.cap
  have hb1 : m ≤ c1 := Nat.le_trans hm1 hr1.cap
  have hb2 : m ≤ c2 := Nat.le_trans hm2 hr2.cap
  have hg0 := hr0.big
  have hg1 := hr1.big
  have hg2 := hr2.big
  generalize l0.take m = L0 at hrx
  generalize l1.take m = L1 at hry
  generalize l2.take m = L2 at hrz
  clear hr0 hr1 hr2
  have hmk := mk_bytes m m rfl (by omega)
  go_enter Try.func6, Try.ntmps6
  go_wp2_with fail
  refine (make_any _).mono ?_
  rintro e w1 ⟨rfl, ht, hb1⟩
  have Ht := Lib.hid ht
  clear ht
  go_wp2_with fail
  have hX := Lib.hid (mix_len (mix L0 L1) L2 m (mix_len L0 L1 m hrx.len hry.len) hrz.len)
  have hlen0 := Lib.hid hrx.len
  have hlen1 := Lib.hid hry.len
  have hlen2 := Lib.hid hrz.len
  go_loopw [25] (fun i wr => ∃ k : Nat, k ≤ m ∧ i = .int .i64 k ∧ Hid (Bb wr w1.heap.size 5 ((mix (mix L0 L1) L2).take k ++ rep (m - k) 0)) ∧ Below w1.heap.size w1 wr) (fun i _ => m - (intOf i).toNat)
  case atStart => exact ⟨0, Nat.zero_le _, rfl, Bb.made w1 m, below_new _ _⟩
  case round =>
    obtain ⟨k, hk, rfl, hbk, hbel⟩ := hrel
    have hb01 := hb1.trans (hbel.mono hb1.size)
    by_cases hlt : k < m
    · have hi : (k : Int) < m := by omega
      have hi0 : (k : Int) < n0 := by omega
      have hi1 : (k : Int) < n1 := by omega
      have hi2 : (k : Int) < n2 := by omega
      obtain ⟨a0, x0, rfl, _, hx0, hc0⟩ := (hrx.ext hb01).get hlt
      obtain ⟨a1, x1, rfl, _, hx1, hc1⟩ := (hry.ext hb01).get hlt
      obtain ⟨a2, x2, rfl, _, hx2, hc2⟩ := (hrz.ext hb01).get hlt
      have hput := Lib.hid (hbk.out.put k (x0 ^^^ x1 ^^^ x2)).drawn1
      obtain ⟨y, _, hcy⟩ := hbk.out.get (i := k) (by rw [List.length_append, rep_len, List.length_take, hX.out]; omega)
      have hf := hbk.out.thaw k
      clear hrx hry hrz
      go_wp2
      go_region
      all_goals
        go_wp2
        go_roundw
        case rel =>
          refine ⟨k + 1, by omega, by go_num, ?_, below_drew1 (hbel.setCell (Nat.le_refl _) _)⟩
          have e := hput.out
          rw [fill_step _ m k hX.out hlt _ (mix_get _ _ _ _ _ (mix_get _ _ _ _ _ hx0.out hx1.out) hx2.out)] at e
          exact e
        case measure => simp [intOf]; omega
    · have hkm : k = m := by omega
      subst hkm
      have Hbk := hbk.out
      rw [← hX.out, List.take_length, hX.out, Nat.sub_self] at Hbk
      have hrX := Bb.whole Hbk k k (by show _ = (_ ++ []).length; rw [List.append_nil, hX.out]) (Nat.le_refl _) (by omega)
      have e0 : mix (mix L0 L1) L2 ++ rep 0 0 = mix (mix L0 L1) L2 := List.append_nil _
      rw [e0] at hrX
      have HT := (Ht.out.ext hbel)
      have s0 := Lib.hid fun t : Ext wr => ext_of_same (sum_any _ _ _ _ _ t.w (HT.ext t.below) (((hrx.ext hb01).ext t.below)))
      have s1 := Lib.hid fun t : Ext wr => ext_of_same (sum_any _ _ _ _ _ t.w (HT.ext t.below) (((hry.ext hb01).ext t.below)))
      have s2 := Lib.hid fun t : Ext wr => ext_of_same (sum_any _ _ _ _ _ t.w (HT.ext t.below) (((hrz.ext hb01).ext t.below)))
      have s3 := fun t : Ext wr => ext_of_same (sum_any _ _ _ _ _ t.w (HT.ext t.below) ((hrX.ext t.below)))
      rw [← linear_law L0 L1 L2 k hlen0.out hlen1.out hlen2.out] at s3
      have s3 := Lib.hid s3
      have HB := Lib.hid hb01
      clear hrx hry hrz hrX HT Hbk hbk hb01 hbel
      go_wp2_with fail
      refine wp_region_ext (by kernel_rfl) (by kernel_rfl) ?_
      repeat (go_big_quiet_step (first
        | (go_at_call 10; with_reducible exact s0.out _)
        | (go_at_call 10; with_reducible exact s1.out _)
        | (go_at_call 10; with_reducible exact s2.out _)
        | (go_at_call 10; with_reducible exact s3.out _)
        | (go_at_call 3; exact ext_of (crcRuns_any _))))
      refine wpQuiet_nil ?_
      intro _ hw'
      obtain ⟨t, hw''⟩ := hw'
      subst hw''
      go_wp2_with fail
      go_ret
      exact ⟨rfl, HB.out.trans (t.below.mono HB.out.size)⟩
end Go.Proofs.Ytljpefpdpgalgaa
