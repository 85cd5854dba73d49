/-
  entry: same, restOf.
-/
import Derived.Test.YtjodiieeocaipaaGreatDoorEMades
namespace Go.Proofs.YtjodiieeocaipaaGreatDoor
open Go.RowKit
attribute [local go_sem ↓] ldB_eq stB_eq ldE_eq stE_eq

theorem beq_no {a b : Int} (h : a ≠ b) : (a == b) = false := by simp [h]
set_option maxRecDepth 100000 in
set_option maxHeartbeats 2000000 in
theorem same_any (a b : Bat) (A A' : Option Addr) (n c n' c' : Nat) (r : Bool) (hr : sameB a b = r) (w : World) (h : RdT w A n c a.vals) (h' : RdT w A' n' c' b.vals) :
    Calls Tryz.prog 49 #[.agg #[.int .i64 a.time, .int .i64 a.prod, .int .i64 a.seq, .slice A n c], .agg #[.int .i64 b.time, .int .i64 b.prod, .int .i64 b.seq, .slice A' n' c']] w fun e w' => e = .returned (.bool r) ∧ Below w.heap.size w w' := by
  obtain ⟨t1, p1, s1, l1⟩ := a
  obtain ⟨t2, p2, s2, l2⟩ := b
  dsimp only at h h' ⊢
  have hr0 : (decide (t1 = t2) && decide (p1 = p2) && decide (s1 = s2) && decide (l1 = l2)) = r := hr
  clear hr
  have hb2 := below_two w (.cells #[.int .i64 t1, .int .i64 p1, .int .i64 s1, .slice A n c] 32) (.cells #[.int .i64 t2, .int .i64 p2, .int .i64 s2, .slice A' n' c'] 32)
  have hE := Lib.hid (equalT_any A n c l1 A' n' c' l2 _ (h.ext hb2) (h'.ext hb2))
  have HB := Lib.hid hb2
  clear h h' hb2
  have h4 : ((t1 == t2) = false ∧ r = false) ∨ (t1 = t2 ∧ (p1 == p2) = false ∧ r = false) ∨ (t1 = t2 ∧ p1 = p2 ∧ (s1 == s2) = false ∧ r = false) ∨ (t1 = t2 ∧ p1 = p2 ∧ s1 = s2 ∧ decide (l1 = l2) = r) := by
    by_cases ht : t1 = t2
    · by_cases hp : p1 = p2
      · by_cases hs : s1 = s2
        · exact .inr (.inr (.inr ⟨ht, hp, hs, by simpa [ht, hp, hs] using hr0⟩))
        · exact .inr (.inr (.inl ⟨ht, hp, beq_no hs, by rw [← hr0]; simp [hs]⟩))
      · exact .inr (.inl ⟨ht, beq_no hp, by rw [← hr0]; simp [hp]⟩)
    · exact .inl ⟨beq_no ht, by rw [← hr0]; simp [ht]⟩
  clear hr0
  rcases h4 with ⟨hn, rfl⟩ | ⟨rfl, hn, rfl⟩ | ⟨rfl, rfl, hn, rfl⟩ | ⟨rfl, rfl, rfl, hd⟩
  case' inr.inr.inr =>
    have hEr := Lib.hid (hE.out r hd)
    clear hd
  all_goals
    go_enter Tryz.func49, Tryz.ntmps49
    go_wp2_with (first | (go_at_call 78; (with_reducible refine hEr.out.mono ?_); rintro e w3 ⟨rfl, hb3⟩; have HB3 := Lib.hid hb3; clear hb3) | fail)
    go_ret
    exact ⟨rfl, by first | exact HB.out.trans (below_le HB.out.size HB3.out) | exact HB.out⟩
theorem size_r : (Tryz.prog.info? 109).map (·.size) = some 7 := by kernel_rfl
def stR (v u : Value) : Sem Unit := Instr.storeAt 109 v u
theorem stR_eq (v u : Value) : Instr.storeAt 109 v u = stR v u := rfl
theorem stR_newAt (w : World) (G : Nat) (hG : G = w.heap.size) (k : Int) (t g : ByteArray) (part parts first off : Int) (old : Array Value) (ho : old.size = 7) :
    (stR (.pointer (some ⟨G, 0, none⟩)) (.agg #[.int .i64 k, .string t, .string g, .int .i64 part, .int .i64 parts, .int .i64 first, .int .i64 off])).run Tryz.prog (w.alloc (.cells old 109)) = .ok () (w.alloc (.cells #[.int .i64 k, .string t, .string g, .int .i64 part, .int .i64 parts, .int .i64 first, .int .i64 off] 109)) := by
  subst hG
  exact run_storeAt_new w 109 _ _ size_r ho (all_oneCell_toArray (one_all rfl))
attribute [local go_sem ↓] stR_eq
set_option maxRecDepth 100000 in
set_option maxHeartbeats 2000000 in
theorem restOf_any (k : Int) (t g : ByteArray) (part parts first off time prod seq : Int) (A : Option Addr) (n c : Nat) (w : World) :
    Calls Tryz.prog 48 #[.agg #[.int .i64 k, .string t, .string g, .int .i64 part, .int .i64 parts, .int .i64 first, .int .i64 off, .int .i64 time, .int .i64 prod, .int .i64 seq, .slice A n c]] w fun e w' => e = .returned (.agg #[.int .i64 k, .string t, .string g, .int .i64 part, .int .i64 parts, .int .i64 first, .int .i64 off]) ∧ Below w.heap.size w w' := by
  have hst := stR_newAt (w.alloc (.cells #[.int .i64 k, .string t, .string g, .int .i64 part, .int .i64 parts, .int .i64 first, .int .i64 off, .int .i64 time, .int .i64 prod, .int .i64 seq, .slice A n c] 34)) (w.heap.size + 1) (by simp) k t g part parts first off #[.int .i64 0, .string ⟨#[]⟩, .string ⟨#[]⟩, .int .i64 0, .int .i64 0, .int .i64 0, .int .i64 0] rfl
  have hb2 := below_two w (.cells #[.int .i64 k, .string t, .string g, .int .i64 part, .int .i64 parts, .int .i64 first, .int .i64 off, .int .i64 time, .int .i64 prod, .int .i64 seq, .slice A n c] 34) (.cells #[.int .i64 k, .string t, .string g, .int .i64 part, .int .i64 parts, .int .i64 first, .int .i64 off] 109)
  have hk := Lib.hid (Bk.made_at (w.alloc (.cells #[.int .i64 k, .string t, .string g, .int .i64 part, .int .i64 parts, .int .i64 first, .int .i64 off, .int .i64 time, .int .i64 prod, .int .i64 seq, .slice A n c] 34)) (w.heap.size + 1) 109 #[.int .i64 k, .string t, .string g, .int .i64 part, .int .i64 parts, .int .i64 first, .int .i64 off] (by simp))
  have HB := Lib.hid hb2
  clear hb2
  go_enter Tryz.func48, Tryz.ntmps48
  go_wp2
  exact bodyPost_ret (results_cell_row rfl _ _ (w.heap.size + 1) _ _ (0, 0) _ rfl hk.out Tryz.underlying109 rfl size_r) rfl ⟨rfl, HB.out⟩
end Go.Proofs.YtjodiieeocaipaaGreatDoor
