/-
  stavekeep over entries: Entries, Batches; Same over texts.
-/
import Derived.Test.YtpfdbbcfcimmfaaGreatDoorEGetW
namespace Go.Proofs.YtpfdbbcfcimmfaaGreatDoor
open Go.RowKit
attribute [local go_sem ↓] ldB_eq stB_eq ldE_eq stE_eq

set_option maxRecDepth 100000 in
set_option maxHeartbeats 1000000 in
theorem sameT_any (A : Option Addr) (n c : Nat) (l : List ByteArray) (A' : Option Addr) (n' c' : Nat) (l' : List ByteArray) (w : World) (h : RdT w A n c l) (h' : RdT w A' n' c' l') (r : Bool) (hr : decide (l = l') = r) :
    Calls Tryz.prog 95 #[.slice A n c, .slice A' n' c'] w fun e w' => e = .returned (.bool r) ∧ Below w.heap.size w w' := by
  subst hr
  have hl := h.len
  have hl' := h'.len
  by_cases hn : n = n'
  · subst hn
    have hcap := Rd.cap h
    have hbig := Rd.big h
    have hcap' := Rd.cap h'
    have hbig' := Rd.big h'
    have H := Lib.hid h
    have H' := Lib.hid h'
    have HL := Lib.hid hl
    have HL' := Lib.hid hl'
    have hb0 := Lib.hid (Below.refl w.heap.size w)
    clear h h' hl hl'
    go_enter Tryz.func95, Tryz.ntmps95
    go_wp2
    go_loopw [5] (fun i wr => ∃ k q : Nat, k ≤ n ∧ i = .int .i64 k ∧ l.take k = l'.take k ∧ wr = w.drewN q) (fun i _ => n - (intOf i).toNat)
    case atStart => exact ⟨0, 0, Nat.zero_le _, rfl, rfl, rfl⟩
    case round =>
      obtain ⟨k, q, hk, rfl, hpre, rfl⟩ := hrel
      by_cases hlt : k < n
      · have hi : (k : Int) < n := by omega
        obtain ⟨s, hs⟩ : ∃ s, l[k]? = some s := ⟨l[k]'(by have := HL.out; omega), List.getElem?_eq_getElem _⟩
        obtain ⟨s', hs'⟩ : ∃ s', l'[k]? = some s' := ⟨l'[k]'(by have := HL'.out; omega), List.getElem?_eq_getElem _⟩
        obtain ⟨ad, rfl, _, hc⟩ := Rd.cell H.out k (.string s) (by rw [List.getElem?_map, hs]; rfl)
        obtain ⟨ad', rfl, _, hc'⟩ := Rd.cell H'.out k (.string s') (by rw [List.getElem?_map, hs']; rfl)
        have HS := Lib.hid hs
        have HS' := Lib.hid hs'
        have HP := Lib.hid hpre
        clear hs hs' hpre
        by_cases he : s = s'
        · subst he
          have hne : (s.toList != s.toList) = false := by rw [str_ne]; simp
          go_wp2
          go_quiet (fail)
          rename Nat => q2
          go_wp2
          go_roundw
          case rel => exact ⟨k + 1, q + q2, by omega, by go_num, by rw [List.take_add_one, List.take_add_one, HS.out, HS'.out, HP.out], rfl⟩
          case measure => simp [intOf]; omega
        · have hne : (s.toList == s'.toList) = false := by rw [str_eq]; simp [he]
          have hd : decide (l = l') = false := decide_eq_false (fun e => he (by have h1 := HS.out; rw [e, HS'.out] at h1; exact (Option.some.inj h1).symm))
          have HD := Lib.hid hd
          clear hd
          go_wp2
          go_quiet (fail)
          go_wp2
          go_ret
          exact ⟨ret_bool HD.out.symm, below_drawn (below_drawn hb0.out _) _⟩
      · obtain rfl : k = n := by omega
        have hd : decide (l = l') = true := decide_eq_true (by
          have := hpre
          rw [List.take_of_length_le (by have := HL.out; omega), List.take_of_length_le (by have := HL'.out; omega)] at this
          exact this)
        have HD := Lib.hid hd
        clear hd
        go_wp2
        go_ret
        exact ⟨ret_bool HD.out.symm, below_drawn hb0.out _⟩
  · have hd : decide (l = l') = false := decide_eq_false (fun e => hn (by rw [← hl, ← hl', e]))
    rw [hd]
    have hne : ((n : Int) != (n' : Int)) = true := by rw [bne_iff_ne]; omega
    clear hd h h'
    have hb0 := Lib.hid (Below.refl w.heap.size w)
    go_enter Tryz.func95, Tryz.ntmps95
    go_wp2
    go_ret
    exact ⟨rfl, hb0.out⟩
set_option maxRecDepth 100000 in
set_option maxHeartbeats 2000000 in
theorem batches_any (a b : Bat) (A A' : Option Addr) (n c n' c' : Nat) (r : Bool) (hr : sameB a b = r) (w : World) (h : RdT w A n c a.vals) (h' : RdT w A' n' c' b.vals) :
    Calls Tryz.prog 64 #[.agg #[.int .i64 a.time, .int .i64 a.prod, .int .i64 a.seq, .slice A n c], .agg #[.int .i64 b.time, .int .i64 b.prod, .int .i64 b.seq, .slice A' n' c']] w fun e w' => e = .returned (.bool r) ∧ Below w.heap.size w w' := by
  obtain ⟨t1, p1, s1, l1⟩ := a
  obtain ⟨t2, p2, s2, l2⟩ := b
  dsimp only at h h' ⊢
  have hr0 : (decide (t1 = t2) && decide (p1 = p2) && decide (s1 = s2) && decide (l1 = l2)) = r := hr
  clear hr
  have hb2 := below_two w (.cells #[.int .i64 t1, .int .i64 p1, .int .i64 s1, .slice A n c] 24) (.cells #[.int .i64 t2, .int .i64 p2, .int .i64 s2, .slice A' n' c'] 24)
  have hE := Lib.hid (sameT_any A n c l1 A' n' c' l2 _ (h.ext hb2) (h'.ext hb2))
  have HB := Lib.hid hb2
  clear h h' hb2
  have h4 : ((t1 == t2) = false ∧ r = false) ∨ (t1 = t2 ∧ (p1 == p2) = false ∧ r = false) ∨ (t1 = t2 ∧ p1 = p2 ∧ (s1 == s2) = false ∧ r = false) ∨ (t1 = t2 ∧ p1 = p2 ∧ s1 = s2 ∧ decide (l1 = l2) = r) := by
    by_cases ht : t1 = t2
    · by_cases hp : p1 = p2
      · by_cases hs : s1 = s2
        · exact .inr (.inr (.inr ⟨ht, hp, hs, by simpa [ht, hp, hs] using hr0⟩))
        · exact .inr (.inr (.inl ⟨ht, hp, beq_no hs, by rw [← hr0]; simp [hs]⟩))
      · exact .inr (.inl ⟨ht, beq_no hp, by rw [← hr0]; simp [hp]⟩)
    · exact .inl ⟨beq_no ht, by rw [← hr0]; simp [ht]⟩
  clear hr0
  rcases h4 with ⟨hn, rfl⟩ | ⟨rfl, hn, rfl⟩ | ⟨rfl, rfl, hn, rfl⟩ | ⟨rfl, rfl, rfl, hd⟩
  case' inr.inr.inr =>
    have hEr := Lib.hid (hE.out r hd)
    clear hd
  all_goals
    go_enter Tryz.func64, Tryz.ntmps64
    go_wp2_with (first | (go_at_call 95; (with_reducible refine hEr.out.mono ?_); rintro e w3 ⟨rfl, hb3⟩; have HB3 := Lib.hid hb3; clear hb3) | fail)
    go_ret
    exact ⟨rfl, by first | exact HB.out.trans (below_le HB.out.size HB3.out) | exact HB.out⟩
end Go.Proofs.YtpfdbbcfcimmfaaGreatDoor
