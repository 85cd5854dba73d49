/-
  staveref19: Same.
-/
import Derived.Test.YtpfdbbcfcimmfaaGreatDoorRefB
import Derived.Test.YtpfdbbcfcimmfaaGreatDoorESame
import Derived.BigGuard
import Derived.Deep.CutBlock
namespace Go.Proofs.YtpfdbbcfcimmfaaGreatDoor
open Go.RowKit

set_option maxRecDepth 100000 in
set_option maxHeartbeats 8000000 in
theorem refSame_w (k1 p1 q1 f1 o1 m1 d1 s1 k2 p2 q2 f2 o2 m2 d2 s2 : Int) (t1 g1 t2 g2 : ByteArray) (l l' : List ByteArray) (A A' : Option Addr) (n c n' c' : Nat) (r : Bool) (hr0 : (decide (k1 = k2) && decide (t1 = t2) && decide (g1 = g2) && decide (p1 = p2) && decide (q1 = q2) && decide (f1 = f2) && decide (o1 = o2) && decide (m1 = m2) && decide (d1 = d2) && decide (s1 = s2) && decide (l = l')) = r) (w : World) (h : RdT w A n c l) (h' : RdT w A' n' c' l') :
    Calls Tryz.prog 19 #[.agg #[.int .i64 k1, .string t1, .string g1, .int .i64 p1, .int .i64 q1, .int .i64 f1, .int .i64 o1, .int .i64 m1, .int .i64 d1, .int .i64 s1, .slice A n c], .agg #[.int .i64 k2, .string t2, .string g2, .int .i64 p2, .int .i64 q2, .int .i64 f2, .int .i64 o2, .int .i64 m2, .int .i64 d2, .int .i64 s2, .slice A' n' c']] w fun e w' => e = .returned (.bool r) ∧ Below w.heap.size w w' := by
  have HB := Lib.hid (below_two w (.cells #[.int .i64 k1, .string t1, .string g1, .int .i64 p1, .int .i64 q1, .int .i64 f1, .int .i64 o1, .int .i64 m1, .int .i64 d1, .int .i64 s1, .slice A n c] 26) (.cells #[.int .i64 k2, .string t2, .string g2, .int .i64 p2, .int .i64 q2, .int .i64 f2, .int .i64 o2, .int .i64 m2, .int .i64 d2, .int .i64 s2, .slice A' n' c'] 26))
  have HK1 := Lib.hid ((Bk.made w 26 #[.int .i64 k1, .string t1, .string g1, .int .i64 p1, .int .i64 q1, .int .i64 f1, .int .i64 o1, .int .i64 m1, .int .i64 d1, .int .i64 s1, .slice A n c]).alloc (.cells #[.int .i64 k2, .string t2, .string g2, .int .i64 p2, .int .i64 q2, .int .i64 f2, .int .i64 o2, .int .i64 m2, .int .i64 d2, .int .i64 s2, .slice A' n' c'] 26))
  have HK2 := Lib.hid (Bk.made_at (w.alloc (.cells #[.int .i64 k1, .string t1, .string g1, .int .i64 p1, .int .i64 q1, .int .i64 f1, .int .i64 o1, .int .i64 m1, .int .i64 d1, .int .i64 s1, .slice A n c] 26)) (w.heap.size + 1) 26 #[.int .i64 k2, .string t2, .string g2, .int .i64 p2, .int .i64 q2, .int .i64 f2, .int .i64 o2, .int .i64 m2, .int .i64 d2, .int .i64 s2, .slice A' n' c'] (by simp))
  have H := Lib.hid (h.ext HB.out)
  have H' := Lib.hid (h'.ext HB.out)
  have HL := Lib.hid h.len
  have HL' := Lib.hid h'.len
  have hcap := Rd.cap h
  have hbig := Rd.big h
  have hcap' := Rd.cap h'
  have hbig' := Rd.big h'
  have se : ∀ {x y : ByteArray}, x ≠ y → (x.toList == y.toList) = false := fun {x y} hn => by rw [str_eq]; simp [hn]
  have ss : ∀ (x : ByteArray), (x.toList == x.toList) = true := fun x => by simp
  have HR0 := Lib.hid hr0
  clear h h' hr0
  by_cases hn : n = n'
  · subst hn
    go_enter Tryz.func19, Tryz.ntmps19
    go_upto_block 0 with fail
    generalize ((w.alloc (.cells #[.int .i64 k1, .string t1, .string g1, .int .i64 p1, .int .i64 q1, .int .i64 f1, .int .i64 o1, .int .i64 m1, .int .i64 d1, .int .i64 s1, .slice A n c] 26)).alloc (.cells #[.int .i64 k2, .string t2, .string g2, .int .i64 p2, .int .i64 q2, .int .i64 f2, .int .i64 o2, .int .i64 m2, .int .i64 d2, .int .i64 s2, .slice A' n c'] 26)) = W at HB HK1 HK2 H H' ⊢
    have z110 : ∀ q, (W.drewN q).cell? ⟨w.heap.size, 10, none⟩ = some (.slice A n c) := fun q => (HK1.out.cell 10).trans rfl
    have z210 : ∀ q, (W.drewN q).cell? ⟨w.heap.size + 1, 10, none⟩ = some (.slice A' n c') := fun q => (HK2.out.cell 10).trans rfl
    go_cut [] from 19 to 35 (fun wx => l = l' ∧ ∃ q, wx = W.drewN q)
    case first =>
     go_wp2_with fail
     go_loopw [19] (fun i wr => ∃ k q : Nat, k ≤ n ∧ i = .int .i64 k ∧ Hid (l.take k = l'.take k) ∧ wr = W.drewN q) (fun i _ => n - (intOf i).toNat)
     case atStart => exact ⟨0, 0, Nat.zero_le _, rfl, rfl, rfl⟩
     case round =>
       obtain ⟨k, q, hk, rfl, hpre, rfl⟩ := hrel
       by_cases hlt : k < n
       · have hi : (k : Int) < n := by omega
         obtain ⟨s, hs⟩ : ∃ s, l[k]? = some s := ⟨l[k]'(by have := HL.out; omega), List.getElem?_eq_getElem _⟩
         obtain ⟨s', hs'⟩ : ∃ s', l'[k]? = some s' := ⟨l'[k]'(by have := HL'.out; omega), List.getElem?_eq_getElem _⟩
         obtain ⟨ad, rfl, _, hc⟩ := Rd.cell H.out k (.string s) (by rw [List.getElem?_map, hs]; rfl)
         obtain ⟨ad', rfl, _, hc'⟩ := Rd.cell H'.out k (.string s') (by rw [List.getElem?_map, hs']; rfl)
         have x1 : ∀ q, (W.drewN q).cell? (ad.add k) = some (.string s) := fun q => hc
         have x2 : ∀ q, (W.drewN q).cell? (ad'.add k) = some (.string s') := fun q => hc'
         have HS := Lib.hid hs
         have HS' := Lib.hid hs'
         clear hs hs' hc hc'
         by_cases he : s = s'
         · subst he
           have hne : (s.toList != s.toList) = false := by rw [str_ne]; simp
           go_wp2_with fail
           go_quiet (fail)
           rename Nat => q2
           go_wp2_with fail
           go_roundw
           case rel => exact ⟨k + 1, q + q2, by omega, by go_num, (by
             show l.take (k + 1) = l'.take (k + 1)
             rw [List.take_add_one, List.take_add_one, HS.out, HS'.out, hpre.out]), rfl⟩
           case measure => simp [intOf]; omega
         · have hne : (s.toList == s'.toList) = false := by rw [str_eq]; simp [he]
           have HD : Hid (r = false) := by
             show r = false
             rw [← HR0.out, decide_eq_false (p := l = l') (fun e => he (by have h1 := HS.out; rw [e, HS'.out] at h1; exact (Option.some.inj h1).symm)), Bool.and_false]
           clear he
           go_wp2_with fail
           go_quiet (fail)
           go_wp2_with fail
           go_ret
           exact ⟨ret_bool HD.out.symm, below_drawn (below_drawn HB.out _) _⟩
       · obtain rfl : k = n := by omega
         have hll : l = l' := by
           have := hpre.out
           rw [List.take_of_length_le (by have := HL.out; omega), List.take_of_length_le (by have := HL'.out; omega)] at this
           exact this
         go_wp2_with fail
         go_meet
         case rel => exact ⟨hll, q, rfl⟩
    case rest =>
      obtain ⟨hll, q, rfl⟩ := hcut
      have hr0 := HR0.out
      rw [decide_eq_true (p := l = l') hll, Bool.and_true] at hr0
      have h8 : ((k1 == k2) = false ∧ r = false) ∨ (k1 = k2 ∧ (t1.toList == t2.toList) = false ∧ r = false) ∨ (k1 = k2 ∧ t1 = t2 ∧ (g1.toList == g2.toList) = false ∧ r = false) ∨ (k1 = k2 ∧ t1 = t2 ∧ g1 = g2 ∧ (p1 == p2) = false ∧ r = false) ∨ (k1 = k2 ∧ t1 = t2 ∧ g1 = g2 ∧ p1 = p2 ∧ (q1 == q2) = false ∧ r = false) ∨ (k1 = k2 ∧ t1 = t2 ∧ g1 = g2 ∧ p1 = p2 ∧ q1 = q2 ∧ (f1 == f2) = false ∧ r = false) ∨ (k1 = k2 ∧ t1 = t2 ∧ g1 = g2 ∧ p1 = p2 ∧ q1 = q2 ∧ f1 = f2 ∧ (o1 == o2) = false ∧ r = false) ∨ (k1 = k2 ∧ t1 = t2 ∧ g1 = g2 ∧ p1 = p2 ∧ q1 = q2 ∧ f1 = f2 ∧ o1 = o2 ∧ (m1 == m2) = false ∧ r = false) ∨ (k1 = k2 ∧ t1 = t2 ∧ g1 = g2 ∧ p1 = p2 ∧ q1 = q2 ∧ f1 = f2 ∧ o1 = o2 ∧ m1 = m2 ∧ (d1 == d2) = false ∧ r = false) ∨ (k1 = k2 ∧ t1 = t2 ∧ g1 = g2 ∧ p1 = p2 ∧ q1 = q2 ∧ f1 = f2 ∧ o1 = o2 ∧ m1 = m2 ∧ d1 = d2 ∧ (s1 == s2) = false ∧ r = false) ∨ (k1 = k2 ∧ t1 = t2 ∧ g1 = g2 ∧ p1 = p2 ∧ q1 = q2 ∧ f1 = f2 ∧ o1 = o2 ∧ m1 = m2 ∧ d1 = d2 ∧ s1 = s2 ∧ r = true) := by
        by_cases e0 : k1 = k2
        · by_cases e1 : t1 = t2
          · by_cases e2 : g1 = g2
            · by_cases e3 : p1 = p2
              · by_cases e4 : q1 = q2
                · by_cases e5 : f1 = f2
                  · by_cases e6 : o1 = o2
                    · by_cases e7 : m1 = m2
                      · by_cases e8 : d1 = d2
                        · by_cases e9 : s1 = s2
                          · exact .inr (.inr (.inr (.inr (.inr (.inr (.inr (.inr (.inr (.inr (⟨e0, e1, e2, e3, e4, e5, e6, e7, e8, e9, by rw [← hr0]; simp [e0, e1, e2, e3, e4, e5, e6, e7, e8, e9]⟩))))))))))
                          · exact .inr (.inr (.inr (.inr (.inr (.inr (.inr (.inr (.inr (.inl ⟨e0, e1, e2, e3, e4, e5, e6, e7, e8, beq_no e9, by rw [← hr0]; simp [e9]⟩)))))))))
                        · exact .inr (.inr (.inr (.inr (.inr (.inr (.inr (.inr (.inl ⟨e0, e1, e2, e3, e4, e5, e6, e7, beq_no e8, by rw [← hr0]; simp [e8]⟩))))))))
                      · exact .inr (.inr (.inr (.inr (.inr (.inr (.inr (.inl ⟨e0, e1, e2, e3, e4, e5, e6, beq_no e7, by rw [← hr0]; simp [e7]⟩)))))))
                    · exact .inr (.inr (.inr (.inr (.inr (.inr (.inl ⟨e0, e1, e2, e3, e4, e5, beq_no e6, by rw [← hr0]; simp [e6]⟩))))))
                  · exact .inr (.inr (.inr (.inr (.inr (.inl ⟨e0, e1, e2, e3, e4, beq_no e5, by rw [← hr0]; simp [e5]⟩)))))
                · exact .inr (.inr (.inr (.inr (.inl ⟨e0, e1, e2, e3, beq_no e4, by rw [← hr0]; simp [e4]⟩))))
              · exact .inr (.inr (.inr (.inl ⟨e0, e1, e2, beq_no e3, by rw [← hr0]; simp [e3]⟩)))
            · exact .inr (.inr (.inl ⟨e0, e1, se e2, by rw [← hr0]; simp [e2]⟩))
          · exact .inr (.inl ⟨e0, se e1, by rw [← hr0]; simp [e1]⟩)
        · exact .inl ⟨beq_no e0, by rw [← hr0]; simp [e0]⟩
      have HB2 := Lib.hid (below_drawn HB.out q)
      have Q1 := Lib.hid (show Bk (W.drewN q) w.heap.size 26 #[.int .i64 k1, .string t1, .string g1, .int .i64 p1, .int .i64 q1, .int .i64 f1, .int .i64 o1, .int .i64 m1, .int .i64 d1, .int .i64 s1, .slice A n c] from HK1.out)
      have Q2 := Lib.hid (show Bk (W.drewN q) (w.heap.size + 1) 26 #[.int .i64 k2, .string t2, .string g2, .int .i64 p2, .int .i64 q2, .int .i64 f2, .int .i64 o2, .int .i64 m2, .int .i64 d2, .int .i64 s2, .slice A' n c'] from HK2.out)
      clear hr0 HR0 HK1 HK2 H H' HB z110 z210 hcap hbig hcap' hbig' HL HL' se hll
      generalize W.drewN q = Wq at HB2 Q1 Q2 ⊢
      have z10 : Wq.cell? ⟨w.heap.size, 0, none⟩ = some (.int .i64 k1) := (Q1.out.cell 0).trans rfl
      have z11 : Wq.cell? ⟨w.heap.size, 1, none⟩ = some (.string t1) := (Q1.out.cell 1).trans rfl
      have z12 : Wq.cell? ⟨w.heap.size, 2, none⟩ = some (.string g1) := (Q1.out.cell 2).trans rfl
      have z13 : Wq.cell? ⟨w.heap.size, 3, none⟩ = some (.int .i64 p1) := (Q1.out.cell 3).trans rfl
      have z14 : Wq.cell? ⟨w.heap.size, 4, none⟩ = some (.int .i64 q1) := (Q1.out.cell 4).trans rfl
      have z15 : Wq.cell? ⟨w.heap.size, 5, none⟩ = some (.int .i64 f1) := (Q1.out.cell 5).trans rfl
      have z16 : Wq.cell? ⟨w.heap.size, 6, none⟩ = some (.int .i64 o1) := (Q1.out.cell 6).trans rfl
      have z17 : Wq.cell? ⟨w.heap.size, 7, none⟩ = some (.int .i64 m1) := (Q1.out.cell 7).trans rfl
      have z18 : Wq.cell? ⟨w.heap.size, 8, none⟩ = some (.int .i64 d1) := (Q1.out.cell 8).trans rfl
      have z19 : Wq.cell? ⟨w.heap.size, 9, none⟩ = some (.int .i64 s1) := (Q1.out.cell 9).trans rfl
      have z20 : Wq.cell? ⟨w.heap.size + 1, 0, none⟩ = some (.int .i64 k2) := (Q2.out.cell 0).trans rfl
      have z21 : Wq.cell? ⟨w.heap.size + 1, 1, none⟩ = some (.string t2) := (Q2.out.cell 1).trans rfl
      have z22 : Wq.cell? ⟨w.heap.size + 1, 2, none⟩ = some (.string g2) := (Q2.out.cell 2).trans rfl
      have z23 : Wq.cell? ⟨w.heap.size + 1, 3, none⟩ = some (.int .i64 p2) := (Q2.out.cell 3).trans rfl
      have z24 : Wq.cell? ⟨w.heap.size + 1, 4, none⟩ = some (.int .i64 q2) := (Q2.out.cell 4).trans rfl
      have z25 : Wq.cell? ⟨w.heap.size + 1, 5, none⟩ = some (.int .i64 f2) := (Q2.out.cell 5).trans rfl
      have z26 : Wq.cell? ⟨w.heap.size + 1, 6, none⟩ = some (.int .i64 o2) := (Q2.out.cell 6).trans rfl
      have z27 : Wq.cell? ⟨w.heap.size + 1, 7, none⟩ = some (.int .i64 m2) := (Q2.out.cell 7).trans rfl
      have z28 : Wq.cell? ⟨w.heap.size + 1, 8, none⟩ = some (.int .i64 d2) := (Q2.out.cell 8).trans rfl
      have z29 : Wq.cell? ⟨w.heap.size + 1, 9, none⟩ = some (.int .i64 s2) := (Q2.out.cell 9).trans rfl
      rcases h8 with ⟨hn, rfl⟩ | ⟨rfl, hn, rfl⟩ | ⟨rfl, rfl, hn, rfl⟩ | ⟨rfl, rfl, rfl, hn, rfl⟩ | ⟨rfl, rfl, rfl, rfl, hn, rfl⟩ | ⟨rfl, rfl, rfl, rfl, rfl, hn, rfl⟩ | ⟨rfl, rfl, rfl, rfl, rfl, rfl, hn, rfl⟩ | ⟨rfl, rfl, rfl, rfl, rfl, rfl, rfl, hn, rfl⟩ | ⟨rfl, rfl, rfl, rfl, rfl, rfl, rfl, rfl, hn, rfl⟩ | ⟨rfl, rfl, rfl, rfl, rfl, rfl, rfl, rfl, rfl, hn, rfl⟩ | ⟨rfl, rfl, rfl, rfl, rfl, rfl, rfl, rfl, rfl, rfl, rfl⟩
      all_goals
        go_wp2_with fail
        go_ret
        exact ⟨rfl, HB2.out⟩
  · have HD : Hid (r = false) := by
      show r = false
      rw [← HR0.out, decide_eq_false (p := l = l') (fun e => hn (by rw [← HL.out, ← HL'.out, e])), Bool.and_false]
    have hne : ((n : Int) != (n' : Int)) = true := by rw [bne_iff_ne]; omega
    go_enter Tryz.func19, Tryz.ntmps19
    go_wp2_with fail
    go_ret
    exact ⟨ret_bool HD.out.symm, HB.out⟩
theorem refSame_any (a b : Ent) (A A' : Option Addr) (n c n' c' : Nat) (r : Bool) (hr : (sameR a b && sameB a.bat b.bat) = r) (w : World) (h : RdT w A n c a.bat.vals) (h' : RdT w A' n' c' b.bat.vals) :
    Calls Tryz.prog 19 #[.agg #[.int .i64 a.kind, .string a.topic, .string a.group, .int .i64 a.part, .int .i64 a.parts, .int .i64 a.first, .int .i64 a.off, .int .i64 a.bat.time, .int .i64 a.bat.prod, .int .i64 a.bat.seq, .slice A n c], .agg #[.int .i64 b.kind, .string b.topic, .string b.group, .int .i64 b.part, .int .i64 b.parts, .int .i64 b.first, .int .i64 b.off, .int .i64 b.bat.time, .int .i64 b.bat.prod, .int .i64 b.bat.seq, .slice A' n' c']] w fun e w' => e = .returned (.bool r) ∧ Below w.heap.size w w' :=
  refSame_w _ _ _ _ _ _ _ _ _ _ _ _ _ _ _ _ _ _ _ _ _ _ A A' n c n' c' r (by rw [← hr]; simp only [sameR, sameB, Bool.and_assoc]) w h h'
end Go.Proofs.YtpfdbbcfcimmfaaGreatDoor
