import Derived.Test.YtkdlofgfkfhofaaGreatDoorP39
import Derived.Test.YtkdlofgfkfhofaaGreatDoorP07
import Derived.Test.YtkdlofgfkfhofaaGreatDoorP16
/-
  server: all the frames of a connection, as a function.
-/
namespace Go.Proofs.YtkdlofgfkfhofaaGreatDoor
open Go.RowKit

def allM : Nat → List UInt8 → Nat → List Ev
  | 0, _, _ => []
  | n + 1, l, p => match stepM l p with
    | none => []
    | some (e, l2, p2) => e :: allM n l2 p2
/-- what is left behind them -/
def endM : Nat → List UInt8 → Nat → List UInt8 × Nat
  | 0, l, p => (l, p)
  | n + 1, l, p => match stepM l p with
    | none => (l, p)
    | some (_, l2, p2) => endM n l2 p2
theorem Rn.cases {l : List UInt8} {p : Nat} {E : List Ev} {l2 : List UInt8} {p2 : Nat} (h : Rn l p E l2 p2) : (E = [] ∧ l2 = l ∧ p2 = p) ∨ ∃ e l1 p1 E', stepM l p = some (e, l1, p1) ∧ E = e :: E' ∧ Rn l1 p1 E' l2 p2 := by
  induction h with
  | nil => exact .inl ⟨rfl, rfl, rfl⟩
  | snoc h hs ih =>
    rcases ih with ⟨rfl, rfl, rfl⟩ | ⟨e, l1, p1, E', h1, rfl, h2⟩
    · exact .inr ⟨_, _, _, [], hs, rfl, Rn.nil⟩
    · exact .inr ⟨e, l1, p1, _, h1, rfl, h2.snoc hs⟩
theorem Rn.all : ∀ (n : Nat) {l : List UInt8} {p : Nat} {E : List Ev} {l2 : List UInt8} {p2 : Nat}, Rn l p E l2 p2 → stepM l2 p2 = none → l.length ≤ n → allM n l p = E ∧ endM n l p = (l2, p2)
  | 0, l, p, E, l2, p2, h, _, hn => by
    rcases h.cases with ⟨rfl, rfl, rfl⟩ | ⟨e, l1, p1, E', h1, _, _⟩
    · exact ⟨rfl, rfl⟩
    · have := step_less h1
      omega
  | n + 1, l, p, E, l2, p2, h, hs, hn => by
    unfold allM endM
    rcases h.cases with ⟨rfl, rfl, rfl⟩ | ⟨e, l1, p1, E', h1, rfl, h2⟩
    · rw [hs]
      exact ⟨rfl, rfl⟩
    · rw [h1]
      have := step_less h1
      obtain ⟨q1, q2⟩ := Rn.all n h2 hs (by omega)
      exact ⟨by show e :: allM n l1 p1 = _; rw [q1], q2⟩
/-- whatever is reached is among them -/
theorem Rn.mem : ∀ (n : Nat) {l : List UInt8} {p : Nat} {E : List Ev} {l2 : List UInt8} {p2 : Nat} {e : Ev} {l3 : List UInt8} {p3 : Nat}, Rn l p E l2 p2 → stepM l2 p2 = some (e, l3, p3) → l.length ≤ n → e ∈ allM n l p
  | 0, l, p, E, l2, p2, e, l3, p3, h, hs, hn => by
    rcases h.cases with ⟨rfl, rfl, rfl⟩ | ⟨e, l1, p1, E', h1, _, _⟩
    · have := step_less hs
      omega
    · have := step_less h1
      omega
  | n + 1, l, p, E, l2, p2, e, l3, p3, h, hs, hn => by
    unfold allM
    rcases h.cases with ⟨rfl, rfl, rfl⟩ | ⟨e', l1, p1, E', h1, rfl, h2⟩
    · rw [hs]
      exact List.mem_cons_self
    · rw [h1]
      have := step_less h1
      exact List.mem_cons_of_mem _ (Rn.mem n h2 hs (by omega))
theorem all_fuel : ∀ (n m : Nat) {l : List UInt8} {p : Nat}, l.length ≤ n → l.length ≤ m → allM n l p = allM m l p
  | 0, 0, _, _, _, _ => rfl
  | 0, m + 1, l, p, hn, _ => by
    unfold allM
    cases h : stepM l p with
    | none => rfl
    | some x =>
      obtain ⟨e, l2, p2⟩ := x
      have := step_less h
      omega
  | n + 1, 0, l, p, _, hm => by
    unfold allM
    cases h : stepM l p with
    | none => rfl
    | some x =>
      obtain ⟨e, l2, p2⟩ := x
      have := step_less h
      omega
  | n + 1, m + 1, l, p, hn, hm => by
    unfold allM
    cases h : stepM l p with
    | none => rfl
    | some x =>
      obtain ⟨e, l2, p2⟩ := x
      have := step_less h
      simp only
      rw [all_fuel n m (by omega) (by omega)]
/-- more behind it does not change a step -/
theorem step_more {l : List UInt8} {p : Nat} {e : Ev} {l2 : List UInt8} {p2 : Nat} (h : stepM l p = some (e, l2, p2)) (r : List UInt8) : stepM (l ++ r) p = some (e, l2 ++ r, p2) := by
  have hp : p ≤ l.length ∧ passM (l ++ r) p = passM l p ++ r ∧ leftM (l ++ r) p = leftM l p := by
    by_cases hp : p ≤ l.length
    · refine ⟨hp, ?_, ?_⟩
      · unfold passM
        rw [Nat.min_eq_left hp, Nat.min_eq_left (by rw [List.length_append]; omega), List.drop_append_of_le_length hp]
      · unfold leftM
        rw [Nat.min_eq_left hp, Nat.min_eq_left (by rw [List.length_append]; omega)]
    · have : passM l p = [] := by
        unfold passM
        rw [Nat.min_eq_right (by omega), List.drop_length]
      unfold stepM at h
      rw [this] at h
      cases h
  unfold stepM at h ⊢
  rw [hp.2.1, hp.2.2]
  split at h
  · rename_i x y q hq
    rw [hq]
    simp only [List.cons_append]
    split at h
    · rename_i hle
      rw [if_pos hle]
      split at h
      · cases h
      · rename_i hlt
        rw [if_neg (by rw [List.length_append]; omega)]
        simp only [Option.some.injEq, Prod.mk.injEq] at h
        obtain ⟨rfl, rfl, rfl⟩ := h
        rw [List.take_append_of_le_length (by omega), List.drop_append_of_le_length (by omega)]
    · rename_i hle
      rw [if_neg hle]
      simp only [Option.some.injEq, Prod.mk.injEq] at h
      obtain ⟨rfl, rfl, rfl⟩ := h
      rfl
  · cases h
theorem pass_more (l : List UInt8) (p : Nat) (r : List UInt8) : passM (l ++ r) p = passM (passM l p ++ r) (leftM l p) ∧ leftM (l ++ r) p = leftM (passM l p ++ r) (leftM l p) := by
  unfold passM leftM
  by_cases hp : p ≤ l.length
  · rw [Nat.min_eq_left hp, Nat.min_eq_left (by rw [List.length_append]; omega)]
    simp [List.drop_append_of_le_length hp]
  · rw [Nat.min_eq_right (by omega : l.length ≤ p)]
    simp only [List.drop_length, List.nil_append, List.length_append]
    constructor
    · rw [List.drop_append]
      have : List.drop (min p (l.length + r.length)) l = [] := List.drop_of_length_le (by omega)
      rw [this, List.nil_append]
      congr 1
      omega
    · omega
theorem step_pass (l : List UInt8) (p : Nat) (r : List UInt8) : stepM (l ++ r) p = stepM (passM l p ++ r) (leftM l p) := by
  obtain ⟨h1, h2⟩ := pass_more l p r
  unfold stepM
  rw [h1, h2]
theorem all_pass (n : Nat) (l : List UInt8) (p : Nat) (r : List UInt8) : allM n (l ++ r) p = allM n (passM l p ++ r) (leftM l p) := by
  cases n with
  | zero => rfl
  | succ n => unfold allM; rw [step_pass]
/-- in pieces, or at once -/
theorem Rn.more : ∀ (n : Nat) {l : List UInt8} {p : Nat} {E : List Ev} {l2 : List UInt8} {p2 : Nat}, Rn l p E l2 p2 → ∀ (r : List UInt8), l.length + r.length ≤ n → allM n (l ++ r) p = E ++ allM n (passM l2 p2 ++ r) (leftM l2 p2)
  | n, l, p, E, l2, p2, h, r, hn => by
    induction E generalizing l p n with
    | nil =>
      rcases h.cases with ⟨_, rfl, rfl⟩ | ⟨_, _, _, _, _, h1, _⟩
      · exact all_pass n _ _ r
      · cases h1
    | cons e E ih =>
      rcases h.cases with ⟨h1, _⟩ | ⟨e', l1, p1, E', h1, h2, h3⟩
      · cases h1
      · injection h2 with h2 h4
        subst h2 h4
        have hl := step_less h1
        cases n with
        | zero => omega
        | succ n =>
          have hi := ih (n := n) (l := l1) (p := p1) h3 (by omega)
          have hl3 := h3.less
          have hpl := pass_le l2 p2
          show (match stepM (l ++ r) p with | none => [] | some (e, l2, p2) => e :: allM n l2 p2) = _
          rw [step_more h1 r]
          simp only [List.cons_append]
          rw [hi, all_fuel (n + 1) n (by rw [List.length_append]; omega) (by rw [List.length_append]; omega)]
end Go.Proofs.YtkdlofgfkfhofaaGreatDoor

/-
  server: known, Waits, Awaits, Drain.
-/
namespace Go.Proofs.YtkdlofgfkfhofaaGreatDoor
open Go.RowKit Go.Maps

set_option maxRecDepth 100000 in
theorem known_any (i : Int) (w : World) : Calls Tryz.prog 27 #[.int .i64 i] w fun e w' => e = .returned (.bool (decide (0 ≤ i ∧ i < 4))) ∧ w' = w := by
  by_cases h0 : 0 ≤ i
  · by_cases h1 : i < 4
    · go_enter Tryz.func27, Tryz.ntmps27
      go_wp2_with fail
      go_ret
      exact ⟨ret_bool (by simp; omega), rfl⟩
    · go_enter Tryz.func27, Tryz.ntmps27
      go_wp2_with fail
      go_ret
      exact ⟨ret_bool (by simp; omega), rfl⟩
  · go_enter Tryz.func27, Tryz.ntmps27
    go_wp2_with fail
    go_ret
    exact ⟨ret_bool (by simp; omega), rfl⟩
set_option maxRecDepth 100000 in
set_option maxHeartbeats 1000000 in
theorem svWaits_any {w : World} {sv b i : Nat} {cs : Nat → CV} (hS : Bk w sv 81 (svA b cs)) (hi : i < 4) {l : List UInt8} {p : Nat} {out : List UInt8} (hC : CnAt w (cs i) sv b l p out) :
    Calls Tryz.prog 18 #[.pointer (some ⟨sv, 0, none⟩), .int .i64 i] w fun e w' => e = .returned (.int .i64 out.length) ∧ w' = w := by
  obtain ⟨A, n, c, h1, h2, h3⟩ := hC.out
  have hln := h2.len
  have HK := Lib.hid (known_any i w)
  have hd : decide ((0 : Int) ≤ i ∧ (i : Int) < 4) = true := decide_eq_true (by omega)
  rw [hd] at HK
  have c2 : w.cell? ⟨sv, 1 + i * 4 + 2, none⟩ = some (.slice A n c) := by rw [Nat.mul_comm, hS.cell, (svA_get cs hi).2.2.1, h1]
  clear hS hC h1 h2 h3 hd
  go_enter Tryz.func18, Tryz.ntmps18
  go_wp2_with (first | (go_at_call 27; go_loud (with_reducible refine HK.out.mono ?_); rintro er w1 ⟨rfl, rfl⟩) | fail)
  go_ret
  exact ⟨by rw [hln]; rfl, rfl⟩
set_option maxRecDepth 100000 in
set_option maxHeartbeats 1000000 in
theorem svAwaits_any {w : World} {sv b i : Nat} {cs : Nat → CV} (hS : Bk w sv 81 (svA b cs)) (hi : i < 4) (ha : (cs i).aw = .slice none 0 0) :
    Calls Tryz.prog 17 #[.pointer (some ⟨sv, 0, none⟩), .int .i64 i] w fun e w' => e = .returned (.int .i64 0) ∧ w' = w := by
  have HK := Lib.hid (known_any i w)
  have hd : decide ((0 : Int) ≤ i ∧ (i : Int) < 4) = true := decide_eq_true (by omega)
  rw [hd] at HK
  have c2 : w.cell? ⟨sv, 1 + i * 4 + 3, none⟩ = some (.slice none 0 0) := by rw [Nat.mul_comm, hS.cell, (svA_get cs hi).2.2.2, ha]
  clear hS ha hd
  go_enter Tryz.func17, Tryz.ntmps17
  go_wp2_with (first | (go_at_call 27; go_loud (with_reducible refine HK.out.mono ?_); rintro er w1 ⟨rfl, rfl⟩) | fail)
  go_ret
  exact ⟨rfl, rfl⟩
set_option maxRecDepth 100000 in
theorem svNo_waits {w : World} {sv : Nat} {i : Int} (hi : ¬ (0 ≤ i ∧ i < 4)) :
    Calls Tryz.prog 18 #[.pointer (some ⟨sv, 0, none⟩), .int .i64 i] w fun e w' => e = .returned (.int .i64 0) ∧ w' = w := by
  have HK := Lib.hid (known_any i w)
  rw [decide_eq_false hi] at HK
  go_enter Tryz.func18, Tryz.ntmps18
  go_wp2_with (first | (go_at_call 27; go_loud (with_reducible refine HK.out.mono ?_); rintro er w1 ⟨rfl, rfl⟩) | fail)
  go_ret
  exact ⟨rfl, rfl⟩
set_option maxRecDepth 100000 in
theorem svNo_awaits {w : World} {sv : Nat} {i : Int} (hi : ¬ (0 ≤ i ∧ i < 4)) :
    Calls Tryz.prog 17 #[.pointer (some ⟨sv, 0, none⟩), .int .i64 i] w fun e w' => e = .returned (.int .i64 0) ∧ w' = w := by
  have HK := Lib.hid (known_any i w)
  rw [decide_eq_false hi] at HK
  go_enter Tryz.func17, Tryz.ntmps17
  go_wp2_with (first | (go_at_call 27; go_loud (with_reducible refine HK.out.mono ?_); rintro er w1 ⟨rfl, rfl⟩) | fail)
  go_ret
  exact ⟨rfl, rfl⟩
set_option maxRecDepth 100000 in
theorem svNo_drain {w : World} {sv : Nat} {i n : Int} (hi : ¬ (0 ≤ i ∧ i < 4)) :
    Calls Tryz.prog 19 #[.pointer (some ⟨sv, 0, none⟩), .int .i64 i, .int .i64 n] w fun e w' => e = .returned (.slice none 0 0) ∧ w' = w := by
  have HK := Lib.hid (known_any i w)
  rw [decide_eq_false hi] at HK
  go_enter Tryz.func19, Tryz.ntmps19
  go_wp2_with (first | (go_at_call 27; go_loud (with_reducible refine HK.out.mono ?_); rintro er w1 ⟨rfl, rfl⟩) | fail)
  go_ret
  exact ⟨rfl, rfl⟩
theorem own_place {w : World} {B : Nat} {A : Option Addr} {n c : Nat} {l : List UInt8} (h : OwnB w B (.slice A n c) l) : ∀ ad, A = some ad → B ≤ ad.block := by
  intro ad e
  rcases h.open_ with ⟨h1, _⟩ | ⟨g, cap, h1, h2, _⟩
  · injection h1 with h3 _ _
    rw [h3] at e
    cases e
  · injection h1 with h3 _ _
    rw [h3] at e
    injection e with e
    subst e
    exact h2
attribute [local go_sem ↓] sliced_past
attribute [local go_sem] pastA_zero
set_option maxRecDepth 100000 in
set_option maxHeartbeats 2000000 in
theorem svDrain_any {w : World} {sv b i : Nat} {cs : Nat → CV} (hS : Bk w sv 81 (svA b cs)) (hbs : b < sv) (hi : i < 4) {l : List UInt8} {p : Nat} {out : List UInt8} (hC : CnAt w (cs i) sv b l p out) (k m : Nat) (hm : min k out.length = m) (ho : out.length ≤ 1000000) :
    Calls Tryz.prog 19 #[.pointer (some ⟨sv, 0, none⟩), .int .i64 i, .int .i64 k] w fun e w' => ∃ A c v, e = .returned (.slice A m c) ∧ RdB w' A m c (out.take m) ∧ v.aw = (cs i).aw ∧ SvW w w' sv b (upC cs i v) ∧ CnAt w' v sv b l p (out.drop m) ∧ (∀ ad, A = some ad → w.heap.size ≤ ad.block) := by
  obtain ⟨A, n, c, h1, h2, h3⟩ := hC.out
  have hln := h2.len
  have hcap := h2.cap
  have hbig := h2.big
  have HK := Lib.hid (known_any i w)
  have hd : decide ((0 : Int) ≤ i ∧ (i : Int) < 4) = true := decide_eq_true (by omega)
  rw [hd] at HK
  have c2 : w.cell? ⟨sv, 1 + i * 4 + 2, none⟩ = some (.slice A n c) := by rw [Nat.mul_comm, hS.cell, (svA_get cs hi).2.2.1, h1]
  have hmn : m ≤ n := by omega
  have hmi : min (k : Int) (n : Int) = m := by omega
  have hmx : max (0 : Int) (m : Int) = m := by omega
  have HS := Lib.hid hS
  have HC := Lib.hid hC
  have H1 := Lib.hid h1
  have H2 := Lib.hid h2
  have HLn := Lib.hid hln
  clear hS hC h1 h2 hd hm hln
  go_enter Tryz.func19, Tryz.ntmps19
  go_wp2_with (first | (go_at_call 27; go_loud (with_reducible refine HK.out.mono ?_); rintro er w1 ⟨rfl, rfl⟩) | fail)
  have hcl := clone_own A m c (out.take m) w1 (H2.out.upto m hmn) (by have := HLn.out; omega)
  with_reducible refine hcl.mono ?_
  clear hcl
  rintro er w2 ⟨u2, rfl, ho2, hb2⟩
  obtain ⟨A2, c2', hu2, _⟩ := ho2.reads
  subst hu2
  have htl : (out.take m).length = m := by rw [List.length_take]; have := HLn.out; omega
  rw [htl] at ho2
  have HS2 := Lib.hid (SvW.ext ⟨HS.out, Turned.refl _ _⟩ hb2)
  have HC2 := Lib.hid (HC.out.turned (Turned.of_below (P := fun _ => False) hb2) (fun _ h => h.elim))
  have HR2 := Lib.hid (H2.out.ext hb2)
  have HO2 := Lib.hid ho2
  have d2 : w2.cell? ⟨sv, 1 + i * 4 + 2, none⟩ = some (.slice A n c) := by rw [Nat.mul_comm, HS2.out.bk.cell, (svA_get cs hi).2.2.1, H1.out]
  clear c2 hb2 ho2
  rw [htl]
  clear htl
  go_wp2_with fail
  have hcl := clone_own (pastA A m c 1) (n - m) (c - m) (out.drop m) w2 (HR2.out.past' m hmn) (by have := HLn.out; omega)
  with_reducible refine hcl.mono ?_
  clear hcl
  rintro er w3 ⟨u3, rfl, ho3, hb3⟩
  obtain ⟨A3, c3, hu3, _⟩ := ho3.reads
  subst hu3
  have HS3 := Lib.hid (HS2.out.ext hb3)
  have HC3 := Lib.hid (HC2.out.turned (Turned.of_below (P := fun _ => False) hb3) (fun _ h => h.elim))
  have HR3 := Lib.hid (HO2.out.rd.ext hb3)
  have HO3 := Lib.hid ho3
  have d3 : w3.cell? ⟨sv, 1 + i * 4 + 2, none⟩ = some (.slice A n c) := by rw [Nat.mul_comm, HS3.out.bk.cell, (svA_get cs hi).2.2.1, H1.out]
  have z3 : w3.frozen? ⟨sv, 1 + i * 4 + 2, none⟩ = false := HS3.out.bk.thaw _
  have hsl := HS.out.lt
  have hz2 : w1.heap.size ≤ w2.heap.size := HS2.out.tu.size
  clear d2 hb3 ho3
  go_wp2_with fail
  go_ret
  rw [Nat.mul_comm i 4, show out.length - m = (out.drop m).length by rw [List.length_drop]]
  have hp2 := own_place HO2.out
  have hp3 := own_place HO3.out
  have hw := HS3.out.put (svA_set cs hi (.slice A3 (out.drop m).length c3)).2.2.1
  have hw3 := (⟨HS3.out.bk, Turned.refl _ _⟩ : SvW w3 w3 sv b _).put (svA_set cs hi (.slice A3 (out.drop m).length c3)).2.2.1
  have hC4 := HC3.out.turned hw3.tu (fun _ h => .inl h)
  refine ⟨A2, c2', ⟨(cs i).inp, (cs i).past, .slice A3 (out.drop m).length c3, (cs i).aw⟩, rfl, RdB.turned HR3.out hw3.tu (fun a e q => ?_), rfl, hw, ⟨hC4.inp, hC4.past, ⟨_, _, _, rfl, RdB.turned HO3.out.rd hw3.tu (fun a e q => ?_), fun a e => ?_⟩⟩, hp2⟩
  · have := hp2 a e
    have q : a.block = sv := q
    omega
  · have := hp3 a e
    have q : a.block = sv := q
    omega
  · have := hp3 a e
    omega
end Go.Proofs.YtkdlofgfkfhofaaGreatDoor

/-
  server: Do, a step of bytes.
-/
namespace Go.Proofs.YtkdlofgfkfhofaaGreatDoor
open Go.RowKit Go.Maps

set_option maxRecDepth 100000 in
theorem bRack_any {w : World} {b r : Nat} {t y s m ws : Value} {last : Int} (h : Bk w b 105 (brC r t y s m ws last)) : Calls Tryz.prog 26 #[.pointer (some ⟨b, 0, none⟩)] w fun e w' => e = .returned (.pointer (some ⟨r, 0, none⟩)) ∧ w' = w := by
  have c0 : w.cell? ⟨b, 0, none⟩ = some (.pointer (some ⟨r, 0, none⟩)) := h.cell 0
  clear h
  go_enter Tryz.func26, Tryz.ntmps26
  go_wp2_with fail
  go_ret
  exact ⟨rfl, rfl⟩
abbrev stepC (k c n s a x : Int) (A : Option Addr) (m cp : Nat) : Array Value := #[.int .i64 k, .int .i64 c, .int .i64 n, .int .i64 s, .int .i64 a, .int .u32 x, .slice none 0 0, .slice A m cp]
set_option maxRecDepth 100000 in
set_option maxHeartbeats 4000000 in
theorem svDo_bytes {w : World} {sv b r t g s tb gr : Nat} {me ws : Value} {last : Int} {cf : CfgM} {cs : Nat → CV} (hS : SvAt w sv b r t g s tb gr me ws last cf cs) (hl : SvL sv b t g s tb) {i : Nat} (hi : i < 4) {l : List UInt8} {p : Nat} {out : List UInt8} (hC : CnAt w (cs i) sv b l p out) {Ab : Option Addr} {nb cb : Nat} {bs : List UInt8} (hb : RdB w Ab nb cb bs) (hpot : out.length + 25 * (l.length + nb) ≤ 800000) (hp : p ≤ 900000) (hl0 : 0 ≤ last) (hl1 : last + (l.length + nb) ≤ 900000)
    (hrd : ∀ E l2 p2 X l3 p3 a, Rn (l ++ bs) p E l2 p2 → stepM l2 p2 = some (.frame X, l3, p3) → getA X = .ok a → writK a.kind = false) :
    Calls Tryz.prog 10 #[.pointer (some ⟨sv, 0, none⟩), .agg (stepC 1 i 0 0 0 0 Ab nb cb)] w fun e w' => e = .returned (.bool true) ∧ ∃ E l2 p2 v last', Rn (l ++ bs) p E l2 p2 ∧ stepM l2 p2 = none ∧ CnAt w' v sv b (passM l2 p2) (leftM l2 p2) (out ++ E.flatMap evB) ∧ v.aw = (cs i).aw ∧ SvAt w' sv b r t g s tb gr me ws last' cf (upC cs i v) ∧ 0 ≤ last' ∧ last' ≤ last + E.length ∧ Turned (fun j => j = sv ∨ j = b) w w' := by
  have hb1 := below_new w (.cells (stepC 1 i 0 0 0 0 Ab nb cb) 37)
  have hS1 := hS.ext hb1
  have c0 : (w.alloc (.cells (stepC 1 i 0 0 0 0 Ab nb cb) 37)).cell? ⟨sv, 0, none⟩ = some (.pointer (some ⟨b, 0, none⟩)) := hS1.bk.cell 0
  have HRk := Lib.hid (bRack_any hS1.br.bk)
  have HKn := Lib.hid (known_any i (w.alloc (.cells (stepC 1 i 0 0 0 0 Ab nb cb) 37)))
  have hd : decide ((0 : Int) ≤ i ∧ (i : Int) < 4) = true := decide_eq_true (by omega)
  rw [hd] at HKn
  have hbd : Below w.heap.size w (w.alloc (.cells (stepC 1 i 0 0 0 0 Ab nb cb) 37)).drew := below_drew1 hb1
  have hBy := svBytes_any (hS.ext hbd) hl hi (hC.turned (Turned.of_below (P := fun _ => False) hbd) (fun _ h => h.elim)) (hb.ext hbd) hpot hp hl0 hl1 hrd
  have hks := Bk.made w 37 (stepC 1 i 0 0 0 0 Ab nb cb)
  have hg1 : w.heap.size ≠ sv ∧ w.heap.size ≠ b := by
    have := hS.bk.lt
    have := hS.br.bk.lt
    omega
  have HT2 : Hid (Turned (fun j => j = sv ∨ j = b) w (w.alloc (.cells (stepC 1 i 0 0 0 0 Ab nb cb) 37)).drew) := Turned.of_below hbd
  rw [Nat.mul_comm] at hBy
  have HBy := Lib.hid hBy
  have HKs := Lib.hid hks
  clear hb1 hS1 hS hC hb hrd hd hBy hl hks hbd
  go_enter Tryz.func10, Tryz.ntmps10
  go_wp2_with (first | (go_at_call 26; go_loud (with_reducible refine HRk.out.mono ?_); rintro er w1 ⟨rfl, rfl⟩) | (go_at_call 27; go_loud (with_reducible refine HKn.out.mono ?_); rintro er w2 ⟨rfl, rfl⟩) | fail)
  clear c0 HRk HKn
  generalize w.alloc (.cells (stepC 1 i 0 0 0 0 Ab nb cb) 37) = w1 at HBy HT2 HKs ⊢
  generalize w.heap.size = gs at HKs hg1 ⊢
  have FS : Hid (∀ v, Turned (fun j => j = sv ∨ j = b) w1 v → (v.cell? ⟨gs, 1, none⟩ = some (.int .i64 i) ∧ v.cell? ⟨gs, 7, none⟩ = some (.slice Ab nb cb))) := fun v hv => ⟨(HKs.out.turned hv (by omega)).cell 1, (HKs.out.turned hv (by omega)).cell 7⟩
  have B0 : Hid (Below w1.heap.size w1 w1.drew) := below_drew1 (Below.refl _ _)
  have hi0 : (0 : Int) ≤ (i : Int) := by omega
  have hi4 : (i : Int) < 4 := by omega
  go_region_held3 (fun v => v.cell? ⟨gs, 1, none⟩ = some (.int .i64 i) ∧ v.cell? ⟨gs, 7, none⟩ = some (.slice Ab nb cb)) (first | exact FS.out _ (Turned.of_below B0.out) | exact FS.out _ T4.out | fail) (first | (go_at_call 28; go_loud ((with_reducible refine HBy.out.mono ?_); rintro er w4 ⟨rfl, E, l2, p2, v, last', a1, a2, a3, a4, a5, a6, a7, a8⟩; have T4 := Lib.hid ((Turned.of_below (P := fun j => j = sv ∨ j = b) B0.out).trans a8 (fun _ _ h => h)))) | fail)
  have HF := Lib.hid (show Rn (l ++ bs) p E l2 p2 ∧ stepM l2 p2 = none ∧ CnAt w4 v sv b (passM l2 p2) (leftM l2 p2) (out ++ E.flatMap evB) ∧ v.aw = (cs i).aw ∧ SvAt w4 sv b r t g s tb gr me ws last' cf (upC cs i v) ∧ 0 ≤ last' ∧ last' ≤ last + E.length ∧ Turned (fun j => j = sv ∨ j = b) w w4 from ⟨a1, a2, a3, a4, a5, a6, a7, HT2.out.trans a8 (fun _ _ h => h)⟩)
  clear a1 a2 a3 a4 a5 a6 a7 a8
  go_wp2_with fail
  go_ret
  exact ⟨rfl, E, l2, p2, v, last', HF.out⟩
end Go.Proofs.YtkdlofgfkfhofaaGreatDoor

/-
  rack: New.
-/
namespace Go.Proofs.YtkdlofgfkfhofaaGreatDoor
open Go.RowKit Go.Maps

/-- a rack of blank disks -/
def newR (n s : Nat) : RackM := ⟨n, fun _ => blankD s false, false, -1⟩
def ptrs (d : Nat → Nat) (k : Nat) : List Value := (List.range k).map fun i => .pointer (some ⟨d i, 0, none⟩)
theorem ptrs_ext {d d' : Nat → Nat} {k : Nat} (h : ∀ i, i < k → d i = d' i) : ptrs d k = ptrs d' k := by
  unfold ptrs
  refine List.map_congr_left fun i hi => ?_
  rw [h i (List.mem_range.1 hi)]
theorem ptrs_succ (d : Nat → Nat) (k : Nat) : ptrs d (k + 1) = ptrs d k ++ [.pointer (some ⟨d k, 0, none⟩)] := by
  unfold ptrs
  rw [List.range_succ, List.map_append]
  rfl
/-- New's rounds -/
structure NewAt (w wr : World) (r s k : Nat) (v : Value) (d : Nat → Nat) (o : Nat → Option Nat) : Prop where
  bk : Bk wr r 112 #[v, .bool false, .int .i64 (-1)]
  row : wr.ownsRow w.heap.size 113 1 v k (ptrs d k)
  at_ : ∀ i, i < k → DskAt wr (fun b => o b = some (i + 1)) (d i) (blankD s false)
  pos : ∀ b, o b ≠ some 0
  lim : ∀ b, o b ≠ none → w.heap.size ≤ b ∧ b < wr.heap.size
  nr : o r = none
  nv : ∀ g, v.ownBlock = some g → o g = none ∧ g ≠ r
  low : w.heap.size ≤ r
  below : Below w.heap.size w wr
def nxt (o : Nat → Option Nat) (k : Nat) (wr w1 : World) (b : Nat) : Option Nat := if b < wr.heap.size then o b else if b < w1.heap.size then some (k + 1) else none
/-- a disk is made -/
theorem NewAt.disk {w wr w1 : World} {r s k dn : Nat} {v : Value} {d : Nat → Nat} {o : Nat → Option Nat} (h : NewAt w wr r s k v d o) (hd : DskAt w1 (fun i => wr.heap.size ≤ i) dn (blankD s false)) (hb : Below wr.heap.size wr w1) :
    Bk w1 r 112 #[v, .bool false, .int .i64 (-1)] ∧ w1.ownsRow w.heap.size 113 1 v k (ptrs (fun i => if i = k then dn else d i) k) ∧
    (∀ i, i < k + 1 → DskAt w1 (fun b => nxt o k wr w1 b = some (i + 1)) (if i = k then dn else d i) (blankD s false)) ∧ (∀ b, nxt o k wr w1 b ≠ some 0) ∧ (∀ b, nxt o k wr w1 b ≠ none → w.heap.size ≤ b ∧ b < w1.heap.size) ∧
    nxt o k wr w1 r = none ∧ (∀ g, v.ownBlock = some g → nxt o k wr w1 g = none ∧ g ≠ r) ∧ Below w.heap.size w w1 := by
  have hlo : ∀ b, b < wr.heap.size → nxt o k wr w1 b = o b := fun b hb => if_pos hb
  have hs := h.below.size
  refine ⟨h.bk.ext hb, ?_, fun i hi => ?_, fun b e => ?_, fun b hx => ?_, ?_, fun g hg => ?_, h.below.trans (below_le hs hb)⟩
  · rw [ptrs_ext (d' := d) (fun i hi => if_neg (by omega))]
    exact own_turned (P := fun _ => False) h.row (Turned.of_below hb) (fun _ _ => id)
  · by_cases e : i = k
    · subst e
      rw [if_pos rfl]
      exact hd.more fun b hb hx => by
        show nxt o i wr w1 b = some (i + 1)
        unfold nxt
        rw [if_neg (by omega), if_pos hb]
    · rw [if_neg e]
      refine ((h.at_ i (by omega)).ext hb).more fun b _ hx => ?_
      have hx : o b = some (i + 1) := hx
      show nxt o k wr w1 b = some (i + 1)
      rw [hlo b (h.lim b (by rw [hx]; simp)).2, hx]
  · unfold nxt at e
    split at e
    · exact h.pos b e
    · split at e
      · injection e with e
        omega
      · cases e
  · unfold nxt at hx
    split at hx
    · have := h.lim b hx
      have := hb.size
      omega
    · split at hx
      · omega
      · exact absurd rfl hx
  · rw [hlo r h.bk.lt, h.nr]
  · have h1 := (World.ownsRow.lt h.row g hg).2
    rw [hlo g h1]
    exact h.nv g hg
/-- .. and stands in the rack -/
theorem NewAt.step {w w4 wn w5 : World} {r s k dn : Nat} {v v5 : Value} {d : Nat → Nat} {o : Nat → Option Nat} {g0 : Nat}
    (h : Bk w4 r 112 #[v, .bool false, .int .i64 (-1)] ∧ w4.ownsRow w.heap.size 113 1 v k (ptrs (fun i => if i = k then dn else d i) k) ∧
      (∀ i, i < k + 1 → DskAt w4 (fun b => o b = some (i + 1)) (if i = k then dn else d i) (blankD s false)) ∧ (∀ b, o b ≠ some 0) ∧ (∀ b, o b ≠ none → w.heap.size ≤ b ∧ b < w4.heap.size) ∧
      o r = none ∧ (∀ g, v.ownBlock = some g → o g = none ∧ g ≠ r) ∧ Below w.heap.size w w4) (hlow : w.heap.size ≤ r)
    (hbn : Below w4.heap.size w4 wn) (hg : wn.grownBy w5 v.ownBlock) (ho : w5.ownsRow w.heap.size 113 1 v5 (k + 1) (ptrs (fun i => if i = k then dn else d i) k ++ [.pointer (some ⟨dn, 0, none⟩)]))
    (hob : v5.ownBlock = v.ownBlock ∨ v5.ownBlock = some g0) (hg0 : w4.heap.size ≤ g0) (hb5 : Below w.heap.size w w5) :
    w5.cell? ⟨r, 0, none⟩ = some v ∧ w5.frozen? ⟨r, 0, none⟩ = false ∧ NewAt w (w5.setCell ⟨r, 0, none⟩ v5) r s (k + 1) v5 (fun i => if i = k then dn else d i) o := by
  obtain ⟨p1, p2, p3, p4, p5, p6, p7, p8⟩ := h
  have ht : Turned (fun b => v.ownBlock = some b) w4 w5 := (Turned.of_below (P := fun b => v.ownBlock = some b) hbn).then_grown hg (fun k e => .inl e)
  have q1 : Bk w5 r 112 #[v, .bool false, .int .i64 (-1)] := p1.turned ht (fun e => (p7 r e).2 rfl)
  have hgs := grown_set w5 ⟨r, 0, none⟩ v5
  have ht2 : Turned (fun b => b = r) w5 (w5.setCell ⟨r, 0, none⟩ v5) := Turned.of_grown hgs (fun k e => (Option.some.inj e).symm)
  have hr4 := p1.lt
  have hnv : ∀ g, v5.ownBlock = some g → o g = none ∧ g ≠ r := fun g hg => by
    rcases hob with e | e
    · rw [e] at hg
      exact p7 g hg
    · rw [e] at hg
      have e3 : g0 = g := Option.some.inj hg
      refine ⟨?_, by omega⟩
      cases h : o g with
      | none => rfl
      | some x =>
        have := (p5 g (by rw [h]; simp)).2
        omega
  refine ⟨q1.cell 0, q1.thaw 0, ⟨q1.put 0 v5, ?_, fun i hi => ?_, p4, fun b hb => ⟨(p5 b hb).1, ?_⟩, p6, hnv, hlow, below_grown hb5 hb5.size hgs hlow⟩⟩
  · rw [ptrs_succ, if_pos rfl]
    exact own_turned ho ht2 (fun g hg => (hnv g hg).2)
  · refine ((p3 i hi).turned ht (fun b _ hx e => ?_)).turned ht2 (fun b _ hx e => ?_)
    · have hx : o b = some (i + 1) := hx
      rw [(p7 b e).1] at hx
      cases hx
    · have hx : o b = some (i + 1) := hx
      rw [e, p6] at hx
      cases hx
  · have := (p5 b hb).2
    have := ht.size
    have := ht2.size
    omega
theorem NewAt.rack {w wr : World} {r s n : Nat} {v : Value} {d : Nat → Nat} {o : Nat → Option Nat} (h : NewAt w wr r s n v d o) (hn1 : 1 ≤ n) (hn8 : n ≤ 8) (hs1 : 1 ≤ s) (hs : s ≤ 128) :
    ∃ o', RackAt wr o' r (newR n s) ∧ ∀ i, o' i ≠ none → w.heap.size ≤ i := by
  rcases h.row.2 with ⟨_, h0⟩ | ⟨lb, cap, cur, rfl, hlb, hcur, hcap, hmax, hsz, htk⟩
  · omega
  obtain ⟨hn1', hne⟩ := h.nv lb rfl
  have hbl : Bk wr lb 113 cur := hcur
  refine ⟨fun b => if b = r ∨ b = lb then some 0 else o b, ⟨lb, cap, cur, d, ⟨⟨hn1, hn8, fun i _ => blankD_ok hs1 hs false, fun _ _ => rfl, by show -1 ≤ (-1 : Int); omega, by show (-1 : Int) ≤ _; omega⟩, if_pos (.inl rfl), if_pos (.inr rfl), h.bk, hbl, hcap, hmax, fun i hi => ⟨?_, ?_⟩, fun b hb => ?_⟩⟩, fun b hb => ?_⟩
  · have hi : i < n := hi
    have h8 : (List.take (n * 1) cur.toList)[i]? = (ptrs d n)[i]? := by rw [htk]
    rw [Nat.mul_one, List.getElem?_take, if_pos hi] at h8
    rw [← Array.getElem?_toList, h8]
    unfold ptrs
    rw [List.getElem?_map, List.getElem?_range hi]
    rfl
  · have hi : i < n := hi
    refine (h.at_ i hi).more fun b _ hx => ?_
    have hx : o b = some (i + 1) := hx
    show (if b = r ∨ b = lb then some 0 else o b) = some (i + 1)
    rw [if_neg (fun e => by
      rcases e with e | e
      · rw [e, h.nr] at hx
        cases hx
      · rw [e, hn1'] at hx
        cases hx), hx]
  · have hb : (if b = r ∨ b = lb then some 0 else o b) ≠ none := hb
    split at hb
    · rename_i e
      rcases e with e | e
      · rw [e]; exact h.bk.lt
      · rw [e]; exact hbl.lt
    · exact (h.lim b hb).2
  · have hb : (if b = r ∨ b = lb then some 0 else o b) ≠ none := hb
    split at hb
    · rename_i e
      rcases e with e | e
      · rw [e]; exact h.low
      · rw [e]; exact hlb
    · exact (h.lim b hb).1
theorem info_dp : (Tryz.prog.info? 113).map (fun i => (i.zero, i.size, i.bytes)) = some (some (.pointer none), 1, 8) := by kernel_rfl
theorem one_p1 (a : Option Addr) : ∀ u ∈ [Value.pointer a], u.oneCell' = true := by
  intro u hu
  rw [List.mem_singleton] at hu
  subst hu
  rfl
set_option maxRecDepth 100000 in
set_option maxHeartbeats 4000000 in
theorem rackNew_any (n s : Nat) (hn1 : 1 ≤ n) (hn8 : n ≤ 8) (hs1 : 1 ≤ s) (hs : s ≤ 128) (w : World) :
    Calls Tryz.prog 21 #[.int .i64 (n : Int), .int .i64 (s : Int)] w fun e w' => ∃ r, e = .returned (.tuple #[.pointer (some ⟨r, 0, none⟩), .nilIface]) ∧ (∃ o, RackAt w' o r (newR n s) ∧ ∀ i, o i ≠ none → w.heap.size ≤ i) ∧ Below w.heap.size w w' := by
  obtain ⟨ii, hi0, hz0, hs0, hy0⟩ := info_parts info_dp
  have HI := Lib.hid hi0
  have HZ := Lib.hid hz0
  have HSz := Lib.hid hs0
  have HY := Lib.hid hy0
  have q1 : ¬ (n : Int) < 1 := by omega
  have q2 : ¬ (8 : Int) < n := by omega
  clear hi0 hz0 hs0 hy0
  go_enter Tryz.func21, Tryz.ntmps21
  go_wp2_with fail
  go_loopw [21] (fun i wr => ∃ (k : Nat) (v : Value) (d : Nat → Nat) (o : Nat → Option Nat), k ≤ n ∧ i = .int .i64 k ∧ Hid (NewAt w wr w.heap.size s k v d o)) (fun i _ => n - (intOf i).toNat)
  case atStart =>
    refine ⟨0, .slice none 0 0, fun _ => 0, fun _ => none, Nat.zero_le _, rfl, ⟨Bk.made w _ _, World.ownsRow_nil _ _ _ _, fun i hi => absurd hi (by omega), fun b => (by simp), fun b h => absurd rfl h, rfl, fun g hg => (by cases hg), Nat.le_refl _, below_new w _⟩⟩
  case round =>
    obtain ⟨k, v, d, o, hk, rfl, hN⟩ := hrel
    by_cases hlt : k < n
    · have hi : (k : Int) < n := by omega
      have HD := Lib.hid (dskNew_any s hs1 hs wr)
      obtain ⟨A, c, rfl⟩ : ∃ A c, v = .slice A k c := by
        rcases hN.out.row.2 with ⟨rfl, h0⟩ | ⟨g, cap, cur, rfl, _⟩
        · exact ⟨none, 0, by rw [h0]⟩
        · exact ⟨_, _, rfl⟩
      go_wp2_with (first | (go_at_call 50; (with_reducible refine HD.out.mono ?_); rintro er w4 ⟨dn, rfl, hd4, hb4⟩; have HP4 := Lib.hid (hN.out.disk hd4 hb4); have c0 : w4.cell? ⟨w.heap.size, 0, none⟩ = some (.slice A k c) := HP4.out.1.cell 0; have HBn := Lib.hid (below_new w4 (.cells #[.pointer (some ⟨dn, 0, none⟩)] 113)); have HOw := Lib.hid (own_turned (P := fun _ => False) HP4.out.2.1 (Turned.of_below HBn.out) (fun _ _ => id)); have HB4 := Lib.hid hb4; clear hd4 hb4) | (at_builtin; go_loud (refine wpList_append_gen rfl (.tmp 37) (.tmp 39) 110 rfl 113 ii _ 1 8 Tryz.underlying110 HI.out HZ.out HSz.out HY.out rfl (by omega) w.heap.size w _ k (ptrs (fun i => if i = k then dn else d i) k) rfl HOw.out ⟨w4.heap.size, 0, none⟩ 1 1 [.pointer (some ⟨dn, 0, none⟩)] rfl rfl (cell_new1 _ _ _) (one_p1 _) (by unfold maxLen; omega) (by omega) (HP4.out.2.2.2.2.2.2.2.trans (below_le HP4.out.2.2.2.2.2.2.2.size HBn.out)) (Nat.le_trans HP4.out.2.2.2.2.2.2.2.size HBn.out.size) ?_); intro A5 c5 w5 ho5 hg5 hob5 hb5 hs5; have HS5 := Lib.hid (NewAt.step (s := s) HP4.out hN.out.low HBn.out hg5.out ho5.out hob5.out HBn.out.size hb5); have c5 := HS5.out.1; have f5 := HS5.out.2.1) | fail)
      exact ⟨⟨k + 1, _, _, _, by omega, by go_num, HS5.out.2.2⟩, by simp [intOf]; omega⟩
    · have hk1 : k = n := by omega
      subst hk1
      have hi : ¬ (k : Int) < k := by omega
      go_wp2_with fail
      go_ret2
      obtain ⟨o', h1, h2⟩ := hN.out.rack hn1 hn8 hs1 hs
      exact ⟨_, rfl, ⟨o', h1, h2⟩, hN.out.below⟩
end Go.Proofs.YtkdlofgfkfhofaaGreatDoor

/-
  server: New.
-/
namespace Go.Proofs.YtkdlofgfkfhofaaGreatDoor
open Go.RowKit Go.Maps

def zCs : Nat → CV := fun _ => zC
set_option maxRecDepth 100000 in
set_option maxHeartbeats 2000000 in
theorem svNew_made {w : World} {o : Nat → Option Nat} {r n S : Nat} {W : Nat → Nat → List UInt8} (h : StoAt w o r n S W) {c : CfgM} (hc : c.At n S) {k l m : Nat} (hk : c.k = (k : Int)) (hl : c.slots = (l : Int)) (hm : c.stripes = (m : Int)) (hW : MadeW W c n k l m) (hL : ErrLaid w) :
    Calls Tryz.prog 24 #[.pointer (some ⟨r, 0, none⟩)] w fun e w' => ∃ sv b t g s tb gr me, e = .returned (.pointer (some ⟨sv, 0, none⟩)) ∧ SvAt w' sv b r t g s tb gr me (.slice none 0 0) 0 c zCs ∧ SvL sv b t g s tb ∧ w.heap.size ≤ b ∧ Below w.heap.size w w' := by
  have HB := Lib.hid (bNew_made h hc hk hl hm hW)
  have HL := Lib.hid hL
  clear h hc hk hl hm hW hL
  go_enter Tryz.func24, Tryz.ntmps24
  go_wp2_with fail
  with_reducible refine HB.out.mono ?_
  rintro er w1 ⟨b, t, g, s, tb, gr, me, rfl, h1, h2, h3, h4, q0, q1, q2, q3, q4, hb1⟩
  have hn := below_new w1 (.cells (svA b zCs) 81)
  have hk := Bk.made w1 81 (svA b zCs)
  have HF : Hid (SvAt (w1.alloc (.cells (svA b zCs) 81)) w1.heap.size b r t g s tb gr me (.slice none 0 0) 0 c zCs) := ⟨hk, ⟨h1.ext hn, h2.ext hn, h3.ext hn, h4.ext hn⟩, HL.out.below (hb1.trans (below_le hb1.size hn))⟩
  have HSl : Hid (SvL w1.heap.size b t g s tb) := ⟨⟨q1, q2, q3, q4⟩, h2.lt, h3.lt, h4.bk.lt, h4.map.lt⟩
  have HBe := Lib.hid (hb1.trans (below_le hb1.size hn))
  clear h1 h2 h3 h4 hb1 hn hk
  go_wp2_with fail
  go_ret
  exact ⟨_, b, t, g, s, tb, gr, me, rfl, HF.out, HSl.out, q0, HBe.out⟩
set_option maxRecDepth 100000 in
theorem sectors_any (id k n m l S : Nat) (hS : 1 + l * k + m = S) (hk : k ≤ 8) (hl : l ≤ 8) (hm : m ≤ 64) (w : World) : Calls Tryz.prog 22 #[.agg #[.int .i64 id, .int .i64 k, .int .i64 n, .int .i64 m, .int .i64 l]] w fun e w' => e = .returned (.int .i64 S) ∧ Below w.heap.size w w' := by
  have hb0 := below_new w (.cells #[.int .i64 id, .int .i64 k, .int .i64 n, .int .i64 m, .int .i64 l] 25)
  have hlk : l * k ≤ 64 := Nat.mul_le_mul hl hk
  have e1 : wrap64 ((l : Int) * (k : Int)) = ((l * k : Nat) : Int) := by rw [← Int.natCast_mul]; unfold wrap64; omega
  generalize l * k = q at e1 hlk hS
  have HSe := Lib.hid hS
  clear hS
  go_enter Tryz.func22, Tryz.ntmps22
  go_wp2_with fail
  go_ret
  exact ⟨congrArg (fun z => Ending.returned (.int .i64 z)) (show (1 + (q : Int) + m) = (S : Int) by have := HSe.out; omega), hb0⟩
theorem newR_sto (n S : Nat) : Sto (newR n S) n S (fun j t => (newR n S).rd j t) := ⟨⟨rfl, show (-1 : Int) < 0 by decide, fun _ _ => rfl⟩, rfl, rfl, fun _ _ _ => rfl⟩
attribute [local go_sem ↓] ldCf_eq
set_option maxRecDepth 100000 in
set_option maxHeartbeats 4000000 in
theorem playNew_any (id k n m l S : Nat) (hS : 1 + l * k + m = S) (hk : k ≤ 8) (hl : l ≤ 8) (hm : m ≤ 64) (hn1 : 1 ≤ n) (hn8 : n ≤ 8) (hc : (⟨id, k, n, m, l⟩ : CfgM).At n S) (h128 : S ≤ 128) {w : World} (hL : ErrLaid w) :
    Calls Tryz.prog 8 #[.agg #[.int .i64 id, .int .i64 k, .int .i64 n, .int .i64 m, .int .i64 l]] w fun e w' => ∃ sv b r t g s tb gr me, e = .returned (.pointer (some ⟨sv, 0, none⟩)) ∧ SvAt w' sv b r t g s tb gr me (.slice none 0 0) 0 ⟨id, k, n, m, l⟩ zCs ∧ SvL sv b t g s tb ∧ w.heap.size ≤ b ∧ (∃ o W, StoAt w' o r n S W ∧ o b = none ∧ o sv = none) ∧ Below w.heap.size w w' := by
  have hb0 := below_new w (.cells #[.int .i64 id, .int .i64 k, .int .i64 n, .int .i64 m, .int .i64 l] 25)
  have hk0 := Bk.made w 25 #[.int .i64 id, .int .i64 k, .int .i64 n, .int .i64 m, .int .i64 l]
  have hld := ldCf_bk hk0
  have c2 : (w.alloc (.cells #[.int .i64 id, .int .i64 k, .int .i64 n, .int .i64 m, .int .i64 l] 25)).cell? ⟨w.heap.size, 2, none⟩ = some (.int .i64 n) := hk0.cell 2
  have HB0 := Lib.hid hb0
  have HK0 := Lib.hid hk0
  have HC := Lib.hid hc
  have HL := Lib.hid hL
  have HSe := Lib.hid hS
  clear hb0 hk0 hc hL hS
  go_enter Tryz.func8, Tryz.ntmps8
  go_wp2_with fail
  clear hld c2
  generalize w.alloc (.cells #[.int .i64 id, .int .i64 k, .int .i64 n, .int .i64 m, .int .i64 l] 25) = w1 at HB0 HK0 ⊢
  generalize w.heap.size = gc at HK0 ⊢
  have FS : Hid (∀ v, Below w1.heap.size w1 v → (v.cell? ⟨gc, 2, none⟩ = some (.int .i64 n) ∧ (ldCf (.pointer (some ⟨gc, 0, none⟩))).run Tryz.prog v = .ok (.agg #[.int .i64 id, .int .i64 k, .int .i64 n, .int .i64 m, .int .i64 l]) v)) := fun v hv => ⟨(HK0.out.ext hv).cell 2, ldCf_bk (HK0.out.ext hv)⟩
  have B0 : Hid (Below w1.heap.size w1 w1.drew) := below_drew1 (Below.refl _ _)
  go_region_held3 (fun v => v.cell? ⟨gc, 2, none⟩ = some (.int .i64 n) ∧ (ldCf (.pointer (some ⟨gc, 0, none⟩))).run Tryz.prog v = .ok (.agg #[.int .i64 id, .int .i64 k, .int .i64 n, .int .i64 m, .int .i64 l]) v) (first | exact FS.out _ B0.out | exact FS.out _ B5.out | exact FS.out _ B4.out | fail) (first | (go_at_call 22; go_loud ((with_reducible refine (sectors_any id k n m l S HSe.out hk hl hm w1.drew).mono ?_); rintro er w4 ⟨rfl, hb4⟩; have B4 := Lib.hid (B0.out.trans (below_le B0.out.size hb4)); clear hb4)) | (go_at_call 21; go_loud ((with_reducible refine (rackNew_any n S hn1 hn8 (by have := HSe.out; omega) h128 w4).mono ?_); rintro er w5 ⟨r, rfl, ⟨o, hr, ho⟩, hb5⟩; have B5 := Lib.hid (B4.out.trans (below_le B4.out.size hb5)))) | fail)
  have HS5 : Hid (StoAt w5 o r n S (fun j t => (newR n S).rd j t)) := ⟨newR n S, hr, newR_sto n S⟩
  have hgl : gc < w4.heap.size := Nat.lt_of_lt_of_le HK0.out.lt B4.out.size
  have hog : o gc = none := by
    cases h : o gc with
    | none => rfl
    | some x => have := ho gc (by rw [h]; simp); omega
  have HK5 := Lib.hid (HK0.out.ext B5.out)
  have hld5 := ldCf_bk HK5.out
  have hMk := vMake_any HS5.out HC.out (k := k) (l := l) (m := m) rfl rfl rfl
  simp only at hMk
  have HMk := Lib.hid hMk
  have HOg := Lib.hid hog
  have HOo := Lib.hid ho
  have HB5 := Lib.hid (HB0.out.trans (below_le HB0.out.size B5.out))
  have HZ4 : Hid (w.heap.size ≤ w4.heap.size) := Nat.le_trans HB0.out.size B4.out.size
  clear hMk hr hb5 FS B0 B4 B5 hog ho hgl
  go_wp2_with fail
  with_reducible refine HMk.out.mono ?_
  rintro er w6 ⟨rfl, o6, hp6⟩
  have HP6 := Lib.hid hp6
  have HK6 := Lib.hid (hp6.bk HK5.out HOg.out)
  have HB6 := Lib.hid (hp6.turned.below HB5.out HB5.out.size (fun i hi => Nat.le_trans HZ4.out (HOo.out i hi)))
  have hSn := svNew_made hp6.at_ HC.out (k := k) (l := l) (m := m) rfl rfl rfl (volW_made _ _ _ _ _ _) (HL.out.below HB6.out)
  have HSn := Lib.hid hSn
  clear hp6 hld5 hSn
  go_wp2_with fail
  with_reducible refine HSn.out.mono ?_
  rintro er w7 ⟨sv, b, t, g, s, tb, gr, me, rfl, hS7, hL7, hb7, hb67⟩
  have HF : Hid (SvAt w7 sv b r t g s tb gr me (.slice none 0 0) 0 ⟨id, k, n, m, l⟩ zCs) := hS7
  have HLy := Lib.hid hL7
  have HB7 := Lib.hid (HB6.out.trans (below_le HB6.out.size hb67))
  have hbv := hL7.b
  have HSt : Hid (∃ o W, StoAt w7 o r n S W ∧ o b = none ∧ o sv = none) := ⟨o6, _, HP6.out.at_.ext hb67, HP6.out.at_.newO hb7, HP6.out.at_.newO (by omega)⟩
  have hzb : w.heap.size ≤ b := Nat.le_trans HB6.out.size hb7
  clear hS7 hL7 hb67 HSn HP6 HK6
  go_wp2_with fail
  go_ret
  exact ⟨sv, b, r, t, g, s, tb, gr, me, rfl, HF.out, HLy.out, hzb, HSt.out, HB7.out⟩
end Go.Proofs.YtkdlofgfkfhofaaGreatDoor
