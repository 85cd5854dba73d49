/-
  stavekeep.Asks: are two asks the same?
-/
import Derived.Test.YtpfdbbcfcimmfaaGreatDoorAsk
import Derived.Test.YtpfdbbcfcimmfaaGreatDoorEKeepB
namespace Go.Proofs.YtpfdbbcfcimmfaaGreatDoor
open Go.RowKit
attribute [local go_sem ↓] ldB_eq stB_eq ldA_eq stA_eq

def sameAll (a b : Ask) : Bool := decide (a.corr = b.corr) && decide (a.kind = b.kind) && decide (a.topic = b.topic) && decide (a.group = b.group) && decide (a.part = b.part) && decide (a.parts = b.parts) && decide (a.first = b.first) && decide (a.off = b.off) && decide (a.most = b.most) && decide (a.time = b.time) && sameB a.bat b.bat
theorem sameAll_iff {a b : Ask} : sameAll a b = true ↔ a = b := by
  unfold sameAll
  rw [Bool.and_eq_true, sameB_iff]
  obtain ⟨a1, a2, a3, a4, a5, a6, a7, a8, a9, a10, a11⟩ := a
  obtain ⟨b1, b2, b3, b4, b5, b6, b7, b8, b9, b10, b11⟩ := b
  simp [and_assoc]
set_option maxRecDepth 100000 in
set_option maxHeartbeats 4000000 in
theorem asks_any (a b : Ask) (A A' : Option Addr) (n c n' c' : Nat) (r : Bool) (hr : sameAll a b = r) (w : World) (h : RdT w A n c a.bat.vals) (h' : RdT w A' n' c' b.bat.vals) :
    Calls Tryz.prog 35 #[.agg #[.int .i64 a.corr, .int .i64 a.kind, .string a.topic, .string a.group, .int .i64 a.part, .int .i64 a.parts, .int .i64 a.first, .int .i64 a.off, .int .i64 a.most, .int .i64 a.time, .int .i64 a.bat.time, .int .i64 a.bat.prod, .int .i64 a.bat.seq, .slice A n c], .agg #[.int .i64 b.corr, .int .i64 b.kind, .string b.topic, .string b.group, .int .i64 b.part, .int .i64 b.parts, .int .i64 b.first, .int .i64 b.off, .int .i64 b.most, .int .i64 b.time, .int .i64 b.bat.time, .int .i64 b.bat.prod, .int .i64 b.bat.seq, .slice A' n' c']] w fun e w' => e = .returned (.bool r) ∧ Below w.heap.size w w' := by
  obtain ⟨c1, k1, t1, g1, p1, q1, f1, o1, m1, i1, b1⟩ := a
  obtain ⟨c2, k2, t2, g2, p2, q2, f2, o2, m2, i2, b2⟩ := b
  dsimp only at h h' hr ⊢
  have hr0 : (decide (c1 = c2) && decide (k1 = k2) && decide (t1 = t2) && decide (g1 = g2) && decide (p1 = p2) && decide (q1 = q2) && decide (f1 = f2) && decide (o1 = o2) && decide (m1 = m2) && decide (i1 = i2) && sameB b1 b2) = r := hr
  clear hr
  have hb2 := below_two w (.cells #[.int .i64 c1, .int .i64 k1, .string t1, .string g1, .int .i64 p1, .int .i64 q1, .int .i64 f1, .int .i64 o1, .int .i64 m1, .int .i64 i1, .int .i64 b1.time, .int .i64 b1.prod, .int .i64 b1.seq, .slice A n c] 47) (.cells #[.int .i64 c2, .int .i64 k2, .string t2, .string g2, .int .i64 p2, .int .i64 q2, .int .i64 f2, .int .i64 o2, .int .i64 m2, .int .i64 i2, .int .i64 b2.time, .int .i64 b2.prod, .int .i64 b2.seq, .slice A' n' c'] 47)
  have l1 := ldB_of_ask ((Bk.made w 47 #[.int .i64 c1, .int .i64 k1, .string t1, .string g1, .int .i64 p1, .int .i64 q1, .int .i64 f1, .int .i64 o1, .int .i64 m1, .int .i64 i1, .int .i64 b1.time, .int .i64 b1.prod, .int .i64 b1.seq, .slice A n c]).alloc (.cells #[.int .i64 c2, .int .i64 k2, .string t2, .string g2, .int .i64 p2, .int .i64 q2, .int .i64 f2, .int .i64 o2, .int .i64 m2, .int .i64 i2, .int .i64 b2.time, .int .i64 b2.prod, .int .i64 b2.seq, .slice A' n' c'] 47))
  have l2 := ldB_of_ask (Bk.made_at (w.alloc (.cells #[.int .i64 c1, .int .i64 k1, .string t1, .string g1, .int .i64 p1, .int .i64 q1, .int .i64 f1, .int .i64 o1, .int .i64 m1, .int .i64 i1, .int .i64 b1.time, .int .i64 b1.prod, .int .i64 b1.seq, .slice A n c] 47)) (w.heap.size + 1) 47 #[.int .i64 c2, .int .i64 k2, .string t2, .string g2, .int .i64 p2, .int .i64 q2, .int .i64 f2, .int .i64 o2, .int .i64 m2, .int .i64 i2, .int .i64 b2.time, .int .i64 b2.prod, .int .i64 b2.seq, .slice A' n' c'] (by simp))
  have hE := Lib.hid (batches_any b1 b2 A A' n c n' c' (sameB b1 b2) rfl _ (h.ext hb2) (h'.ext hb2))
  have HB := Lib.hid hb2
  clear h h' hb2
  have se : ∀ {x y : ByteArray}, x ≠ y → (x.toList == y.toList) = false := fun {x y} hn => by rw [str_eq]; simp [hn]
  have ss : ∀ (x : ByteArray), (x.toList == x.toList) = true := fun x => by simp
  have h8 : ((c1 == c2) = false ∧ r = false) ∨ (c1 = c2 ∧ (k1 == k2) = false ∧ r = false) ∨ (c1 = c2 ∧ k1 = k2 ∧ (t1.toList == t2.toList) = false ∧ r = false) ∨ (c1 = c2 ∧ k1 = k2 ∧ t1 = t2 ∧ (g1.toList == g2.toList) = false ∧ r = false) ∨ (c1 = c2 ∧ k1 = k2 ∧ t1 = t2 ∧ g1 = g2 ∧ (p1 == p2) = false ∧ r = false) ∨ (c1 = c2 ∧ k1 = k2 ∧ t1 = t2 ∧ g1 = g2 ∧ p1 = p2 ∧ (q1 == q2) = false ∧ r = false) ∨ (c1 = c2 ∧ k1 = k2 ∧ t1 = t2 ∧ g1 = g2 ∧ p1 = p2 ∧ q1 = q2 ∧ (f1 == f2) = false ∧ r = false) ∨ (c1 = c2 ∧ k1 = k2 ∧ t1 = t2 ∧ g1 = g2 ∧ p1 = p2 ∧ q1 = q2 ∧ f1 = f2 ∧ (o1 == o2) = false ∧ r = false) ∨ (c1 = c2 ∧ k1 = k2 ∧ t1 = t2 ∧ g1 = g2 ∧ p1 = p2 ∧ q1 = q2 ∧ f1 = f2 ∧ o1 = o2 ∧ (m1 == m2) = false ∧ r = false) ∨ (c1 = c2 ∧ k1 = k2 ∧ t1 = t2 ∧ g1 = g2 ∧ p1 = p2 ∧ q1 = q2 ∧ f1 = f2 ∧ o1 = o2 ∧ m1 = m2 ∧ (i1 == i2) = false ∧ r = false) ∨ (c1 = c2 ∧ k1 = k2 ∧ t1 = t2 ∧ g1 = g2 ∧ p1 = p2 ∧ q1 = q2 ∧ f1 = f2 ∧ o1 = o2 ∧ m1 = m2 ∧ i1 = i2 ∧ sameB b1 b2 = r) := by
    by_cases e0 : c1 = c2
    · by_cases e1 : k1 = k2
      · by_cases e2 : t1 = t2
        · by_cases e3 : g1 = g2
          · by_cases e4 : p1 = p2
            · by_cases e5 : q1 = q2
              · by_cases e6 : f1 = f2
                · by_cases e7 : o1 = o2
                  · by_cases e8 : m1 = m2
                    · by_cases e9 : i1 = i2
                      · exact .inr (.inr (.inr (.inr (.inr (.inr (.inr (.inr (.inr (.inr (⟨e0, e1, e2, e3, e4, e5, e6, e7, e8, e9, by simpa [e0, e1, e2, e3, e4, e5, e6, e7, e8, e9] using hr0⟩))))))))))
                      · exact .inr (.inr (.inr (.inr (.inr (.inr (.inr (.inr (.inr (.inl ⟨e0, e1, e2, e3, e4, e5, e6, e7, e8, beq_no e9, by rw [← hr0]; simp [e9]⟩)))))))))
                    · exact .inr (.inr (.inr (.inr (.inr (.inr (.inr (.inr (.inl ⟨e0, e1, e2, e3, e4, e5, e6, e7, beq_no e8, by rw [← hr0]; simp [e8]⟩))))))))
                  · exact .inr (.inr (.inr (.inr (.inr (.inr (.inr (.inl ⟨e0, e1, e2, e3, e4, e5, e6, beq_no e7, by rw [← hr0]; simp [e7]⟩)))))))
                · exact .inr (.inr (.inr (.inr (.inr (.inr (.inl ⟨e0, e1, e2, e3, e4, e5, beq_no e6, by rw [← hr0]; simp [e6]⟩))))))
              · exact .inr (.inr (.inr (.inr (.inr (.inl ⟨e0, e1, e2, e3, e4, beq_no e5, by rw [← hr0]; simp [e5]⟩)))))
            · exact .inr (.inr (.inr (.inr (.inl ⟨e0, e1, e2, e3, beq_no e4, by rw [← hr0]; simp [e4]⟩))))
          · exact .inr (.inr (.inr (.inl ⟨e0, e1, e2, se e3, by rw [← hr0]; simp [e3]⟩)))
        · exact .inr (.inr (.inl ⟨e0, e1, se e2, by rw [← hr0]; simp [e2]⟩))
      · exact .inr (.inl ⟨e0, beq_no e1, by rw [← hr0]; simp [e1]⟩)
    · exact .inl ⟨beq_no e0, by rw [← hr0]; simp [e0]⟩
  clear hr0 se
  rcases h8 with ⟨hn, rfl⟩ | ⟨rfl, hn, rfl⟩ | ⟨rfl, rfl, hn, rfl⟩ | ⟨rfl, rfl, rfl, hn, rfl⟩ | ⟨rfl, rfl, rfl, rfl, hn, rfl⟩ | ⟨rfl, rfl, rfl, rfl, rfl, hn, rfl⟩ | ⟨rfl, rfl, rfl, rfl, rfl, rfl, hn, rfl⟩ | ⟨rfl, rfl, rfl, rfl, rfl, rfl, rfl, hn, rfl⟩ | ⟨rfl, rfl, rfl, rfl, rfl, rfl, rfl, rfl, hn, rfl⟩ | ⟨rfl, rfl, rfl, rfl, rfl, rfl, rfl, rfl, rfl, hn, rfl⟩ | ⟨rfl, rfl, rfl, rfl, rfl, rfl, rfl, rfl, rfl, rfl, hd⟩
  case' inr.inr.inr.inr.inr.inr.inr.inr.inr.inr =>
    rw [hd] at hE
    clear hd
  all_goals
    go_enter Tryz.func35, Tryz.ntmps35
    go_wp2_with (first | (go_at_call 64; (with_reducible refine hE.out.mono ?_); rintro e w3 ⟨rfl, hb3⟩; have HB3 := Lib.hid hb3; clear hb3) | fail)
    go_ret
    exact ⟨rfl, by first | exact HB.out.trans (below_le HB.out.size HB3.out) | exact HB.out⟩
end Go.Proofs.YtpfdbbcfcimmfaaGreatDoor
