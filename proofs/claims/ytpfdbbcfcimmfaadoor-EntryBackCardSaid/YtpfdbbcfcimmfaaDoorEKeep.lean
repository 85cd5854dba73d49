/-
  stavekeep over entries: Entries, Batches; Same over texts.
-/
import Derived.Test.YtpfdbbcfcimmfaaDoorEGetW
namespace Go.Proofs.YtpfdbbcfcimmfaaDoor
open Go.RowKit
attribute [local go_sem ↓] ldB_eq stB_eq ldE_eq stE_eq

set_option maxRecDepth 100000 in
set_option maxHeartbeats 1000000 in
theorem sameT_any (A : Option Addr) (n c : Nat) (l : List ByteArray) (A' : Option Addr) (n' c' : Nat) (l' : List ByteArray) (w : World) (h : RdT w A n c l) (h' : RdT w A' n' c' l') (r : Bool) (hr : decide (l = l') = r) :
    Calls Tryd.prog 38 #[.slice A n c, .slice A' n' c'] w fun e w' => e = .returned (.bool r) ∧ Below w.heap.size w w' := by
  subst hr
  have hl := h.len
  have hl' := h'.len
  by_cases hn : n = n'
  · subst hn
    have hcap := Rd.cap h
    have hbig := Rd.big h
    have hcap' := Rd.cap h'
    have hbig' := Rd.big h'
    have H := Lib.hid h
    have H' := Lib.hid h'
    have HL := Lib.hid hl
    have HL' := Lib.hid hl'
    have hb0 := Lib.hid (Below.refl w.heap.size w)
    clear h h' hl hl'
    go_enter Tryd.func38, Tryd.ntmps38
    go_wp2
    go_loopw [5] (fun i wr => ∃ k q : Nat, k ≤ n ∧ i = .int .i64 k ∧ l.take k = l'.take k ∧ wr = w.drewN q) (fun i _ => n - (intOf i).toNat)
    case atStart => exact ⟨0, 0, Nat.zero_le _, rfl, rfl, rfl⟩
    case round =>
      obtain ⟨k, q, hk, rfl, hpre, rfl⟩ := hrel
      by_cases hlt : k < n
      · have hi : (k : Int) < n := by omega
        obtain ⟨s, hs⟩ : ∃ s, l[k]? = some s := ⟨l[k]'(by have := HL.out; omega), List.getElem?_eq_getElem _⟩
        obtain ⟨s', hs'⟩ : ∃ s', l'[k]? = some s' := ⟨l'[k]'(by have := HL'.out; omega), List.getElem?_eq_getElem _⟩
        obtain ⟨ad, rfl, _, hc⟩ := Rd.cell H.out k (.string s) (by rw [List.getElem?_map, hs]; rfl)
        obtain ⟨ad', rfl, _, hc'⟩ := Rd.cell H'.out k (.string s') (by rw [List.getElem?_map, hs']; rfl)
        have HS := Lib.hid hs
        have HS' := Lib.hid hs'
        have HP := Lib.hid hpre
        clear hs hs' hpre
        by_cases he : s = s'
        · subst he
          have hne : (s.toList != s.toList) = false := by rw [str_ne]; simp
          go_wp2
          go_quiet (fail)
          rename Nat => q2
          go_wp2
          go_roundw
          case rel => exact ⟨k + 1, q + q2, by omega, by go_num, by rw [List.take_add_one, List.take_add_one, HS.out, HS'.out, HP.out], rfl⟩
          case measure => simp [intOf]; omega
        · have hne : (s.toList == s'.toList) = false := by rw [str_eq]; simp [he]
          have hd : decide (l = l') = false := decide_eq_false (fun e => he (by have h1 := HS.out; rw [e, HS'.out] at h1; exact (Option.some.inj h1).symm))
          have HD := Lib.hid hd
          clear hd
          go_wp2
          go_quiet (fail)
          go_wp2
          go_ret
          exact ⟨ret_bool HD.out.symm, below_drawn (below_drawn hb0.out _) _⟩
      · obtain rfl : k = n := by omega
        have hd : decide (l = l') = true := decide_eq_true (by
          have := hpre
          rw [List.take_of_length_le (by have := HL.out; omega), List.take_of_length_le (by have := HL'.out; omega)] at this
          exact this)
        have HD := Lib.hid hd
        clear hd
        go_wp2
        go_ret
        exact ⟨ret_bool HD.out.symm, below_drawn hb0.out _⟩
  · have hd : decide (l = l') = false := decide_eq_false (fun e => hn (by rw [← hl, ← hl', e]))
    rw [hd]
    have hne : ((n : Int) != (n' : Int)) = true := by rw [bne_iff_ne]; omega
    clear hd h h'
    have hb0 := Lib.hid (Below.refl w.heap.size w)
    go_enter Tryd.func38, Tryd.ntmps38
    go_wp2
    go_ret
    exact ⟨rfl, hb0.out⟩
set_option maxRecDepth 100000 in
set_option maxHeartbeats 2000000 in
theorem batches_any (a b : Bat) (A A' : Option Addr) (n c n' c' : Nat) (r : Bool) (hr : sameB a b = r) (w : World) (h : RdT w A n c a.vals) (h' : RdT w A' n' c' b.vals) :
    Calls Tryd.prog 25 #[.agg #[.int .i64 a.time, .int .i64 a.prod, .int .i64 a.seq, .slice A n c], .agg #[.int .i64 b.time, .int .i64 b.prod, .int .i64 b.seq, .slice A' n' c']] w fun e w' => e = .returned (.bool r) ∧ Below w.heap.size w w' := by
  obtain ⟨t1, p1, s1, l1⟩ := a
  obtain ⟨t2, p2, s2, l2⟩ := b
  dsimp only at h h' ⊢
  have hr0 : (decide (t1 = t2) && decide (p1 = p2) && decide (s1 = s2) && decide (l1 = l2)) = r := hr
  clear hr
  have hb2 := below_two w (.cells #[.int .i64 t1, .int .i64 p1, .int .i64 s1, .slice A n c] 27) (.cells #[.int .i64 t2, .int .i64 p2, .int .i64 s2, .slice A' n' c'] 27)
  have hE := Lib.hid (sameT_any A n c l1 A' n' c' l2 _ (h.ext hb2) (h'.ext hb2))
  have HB := Lib.hid hb2
  clear h h' hb2
  have h4 : ((t1 == t2) = false ∧ r = false) ∨ (t1 = t2 ∧ (p1 == p2) = false ∧ r = false) ∨ (t1 = t2 ∧ p1 = p2 ∧ (s1 == s2) = false ∧ r = false) ∨ (t1 = t2 ∧ p1 = p2 ∧ s1 = s2 ∧ decide (l1 = l2) = r) := by
    by_cases ht : t1 = t2
    · by_cases hp : p1 = p2
      · by_cases hs : s1 = s2
        · exact .inr (.inr (.inr ⟨ht, hp, hs, by simpa [ht, hp, hs] using hr0⟩))
        · exact .inr (.inr (.inl ⟨ht, hp, beq_no hs, by rw [← hr0]; simp [hs]⟩))
      · exact .inr (.inl ⟨ht, beq_no hp, by rw [← hr0]; simp [hp]⟩)
    · exact .inl ⟨beq_no ht, by rw [← hr0]; simp [ht]⟩
  clear hr0
  rcases h4 with ⟨hn, rfl⟩ | ⟨rfl, hn, rfl⟩ | ⟨rfl, rfl, hn, rfl⟩ | ⟨rfl, rfl, rfl, hd⟩
  case' inr.inr.inr =>
    have hEr := Lib.hid (hE.out r hd)
    clear hd
  all_goals
    go_enter Tryd.func25, Tryd.ntmps25
    go_wp2_with (first | (go_at_call 38; (with_reducible refine hEr.out.mono ?_); rintro e w3 ⟨rfl, hb3⟩; have HB3 := Lib.hid hb3; clear hb3) | fail)
    go_ret
    exact ⟨rfl, by first | exact HB.out.trans (below_le HB.out.size HB3.out) | exact HB.out⟩
set_option maxRecDepth 100000 in
set_option maxHeartbeats 4000000 in
theorem entries_any (a b : Ent) (A A' : Option Addr) (n c n' c' : Nat) (r : Bool) (hr : (sameR a b && sameB a.bat b.bat) = r) (w : World) (h : RdT w A n c a.bat.vals) (h' : RdT w A' n' c' b.bat.vals) :
    Calls Tryd.prog 14 #[.agg #[.int .i64 a.kind, .string a.topic, .string a.group, .int .i64 a.part, .int .i64 a.parts, .int .i64 a.first, .int .i64 a.off, .int .i64 a.bat.time, .int .i64 a.bat.prod, .int .i64 a.bat.seq, .slice A n c], .agg #[.int .i64 b.kind, .string b.topic, .string b.group, .int .i64 b.part, .int .i64 b.parts, .int .i64 b.first, .int .i64 b.off, .int .i64 b.bat.time, .int .i64 b.bat.prod, .int .i64 b.bat.seq, .slice A' n' c']] w fun e w' => e = .returned (.bool r) ∧ Below w.heap.size w w' := by
  obtain ⟨k1, t1, g1, p1, q1, f1, o1, b1⟩ := a
  obtain ⟨k2, t2, g2, p2, q2, f2, o2, b2⟩ := b
  dsimp only at h h' hr ⊢
  have hr0 : (decide (k1 = k2) && decide (t1 = t2) && decide (g1 = g2) && decide (p1 = p2) && decide (q1 = q2) && decide (f1 = f2) && decide (o1 = o2) && sameB b1 b2) = r := hr
  clear hr
  have hb2 := below_two w (.cells #[.int .i64 k1, .string t1, .string g1, .int .i64 p1, .int .i64 q1, .int .i64 f1, .int .i64 o1, .int .i64 b1.time, .int .i64 b1.prod, .int .i64 b1.seq, .slice A n c] 29) (.cells #[.int .i64 k2, .string t2, .string g2, .int .i64 p2, .int .i64 q2, .int .i64 f2, .int .i64 o2, .int .i64 b2.time, .int .i64 b2.prod, .int .i64 b2.seq, .slice A' n' c'] 29)
  have l1 := ldB_of_ent ((Bk.made w 29 #[.int .i64 k1, .string t1, .string g1, .int .i64 p1, .int .i64 q1, .int .i64 f1, .int .i64 o1, .int .i64 b1.time, .int .i64 b1.prod, .int .i64 b1.seq, .slice A n c]).alloc (.cells #[.int .i64 k2, .string t2, .string g2, .int .i64 p2, .int .i64 q2, .int .i64 f2, .int .i64 o2, .int .i64 b2.time, .int .i64 b2.prod, .int .i64 b2.seq, .slice A' n' c'] 29))
  have l2 := ldB_of_ent (Bk.made_at (w.alloc (.cells #[.int .i64 k1, .string t1, .string g1, .int .i64 p1, .int .i64 q1, .int .i64 f1, .int .i64 o1, .int .i64 b1.time, .int .i64 b1.prod, .int .i64 b1.seq, .slice A n c] 29)) (w.heap.size + 1) 29 #[.int .i64 k2, .string t2, .string g2, .int .i64 p2, .int .i64 q2, .int .i64 f2, .int .i64 o2, .int .i64 b2.time, .int .i64 b2.prod, .int .i64 b2.seq, .slice A' n' c'] (by simp))
  have hE := Lib.hid (batches_any b1 b2 A A' n c n' c' (sameB b1 b2) rfl _ (h.ext hb2) (h'.ext hb2))
  have HB := Lib.hid hb2
  clear h h' hb2
  have se : ∀ {x y : ByteArray}, x ≠ y → (x.toList == y.toList) = false := fun {x y} hn => by rw [str_eq]; simp [hn]
  have ss : ∀ (x : ByteArray), (x.toList == x.toList) = true := fun x => by simp
  have h8 : ((k1 == k2) = false ∧ r = false) ∨ (k1 = k2 ∧ (t1.toList == t2.toList) = false ∧ r = false) ∨ (k1 = k2 ∧ t1 = t2 ∧ (g1.toList == g2.toList) = false ∧ r = false) ∨ (k1 = k2 ∧ t1 = t2 ∧ g1 = g2 ∧ (p1 == p2) = false ∧ r = false) ∨ (k1 = k2 ∧ t1 = t2 ∧ g1 = g2 ∧ p1 = p2 ∧ (q1 == q2) = false ∧ r = false) ∨ (k1 = k2 ∧ t1 = t2 ∧ g1 = g2 ∧ p1 = p2 ∧ q1 = q2 ∧ (f1 == f2) = false ∧ r = false) ∨ (k1 = k2 ∧ t1 = t2 ∧ g1 = g2 ∧ p1 = p2 ∧ q1 = q2 ∧ f1 = f2 ∧ (o1 == o2) = false ∧ r = false) ∨ (k1 = k2 ∧ t1 = t2 ∧ g1 = g2 ∧ p1 = p2 ∧ q1 = q2 ∧ f1 = f2 ∧ o1 = o2 ∧ sameB b1 b2 = r) := by
    by_cases e1 : k1 = k2
    · by_cases e2 : t1 = t2
      · by_cases e3 : g1 = g2
        · by_cases e4 : p1 = p2
          · by_cases e5 : q1 = q2
            · by_cases e6 : f1 = f2
              · by_cases e7 : o1 = o2
                · exact .inr (.inr (.inr (.inr (.inr (.inr (.inr ⟨e1, e2, e3, e4, e5, e6, e7, by simpa [e1, e2, e3, e4, e5, e6, e7] using hr0⟩))))))
                · exact .inr (.inr (.inr (.inr (.inr (.inr (.inl ⟨e1, e2, e3, e4, e5, e6, beq_no e7, by rw [← hr0]; simp [e7]⟩))))))
              · exact .inr (.inr (.inr (.inr (.inr (.inl ⟨e1, e2, e3, e4, e5, beq_no e6, by rw [← hr0]; simp [e6]⟩)))))
            · exact .inr (.inr (.inr (.inr (.inl ⟨e1, e2, e3, e4, beq_no e5, by rw [← hr0]; simp [e5]⟩))))
          · exact .inr (.inr (.inr (.inl ⟨e1, e2, e3, beq_no e4, by rw [← hr0]; simp [e4]⟩)))
        · exact .inr (.inr (.inl ⟨e1, e2, se e3, by rw [← hr0]; simp [e3]⟩))
      · exact .inr (.inl ⟨e1, se e2, by rw [← hr0]; simp [e2]⟩)
    · exact .inl ⟨beq_no e1, by rw [← hr0]; simp [e1]⟩
  clear hr0 se
  rcases h8 with ⟨hn, rfl⟩ | ⟨rfl, hn, rfl⟩ | ⟨rfl, rfl, hn, rfl⟩ | ⟨rfl, rfl, rfl, hn, rfl⟩ | ⟨rfl, rfl, rfl, rfl, hn, rfl⟩ | ⟨rfl, rfl, rfl, rfl, rfl, hn, rfl⟩ | ⟨rfl, rfl, rfl, rfl, rfl, rfl, hn, rfl⟩ | ⟨rfl, rfl, rfl, rfl, rfl, rfl, rfl, hd⟩
  case' inr.inr.inr.inr.inr.inr.inr =>
    rw [hd] at hE
    clear hd
  all_goals
    go_enter Tryd.func14, Tryd.ntmps14
    go_wp2_with (first | (go_at_call 25; (with_reducible refine hE.out.mono ?_); rintro e w3 ⟨rfl, hb3⟩; have HB3 := Lib.hid hb3; clear hb3) | fail)
    go_ret
    exact ⟨rfl, by first | exact HB.out.trans (below_le HB.out.size HB3.out) | exact HB.out⟩
end Go.Proofs.YtpfdbbcfcimmfaaDoor
