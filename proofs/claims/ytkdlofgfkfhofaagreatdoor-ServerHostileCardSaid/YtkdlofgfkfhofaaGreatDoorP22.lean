import Derived.Test.YtkdlofgfkfhofaaGreatDoorP21
import Derived.Lib.AppendStr
import Derived.Deep.RegionHeld3
import Derived.Test.YtkdlofgfkfhofaaGreatDoorP04
/-
  gram: low, written.
-/
namespace Go.Proofs.YtkdlofgfkfhofaaGreatDoor
open Go.RowKit
attribute [local go_sem ↓] ldF_eq ldV_eq

theorem laid_all (n : Nat) (l : List UInt8) (h : l.length = n) : laid (List.replicate n 0) 0 l = l := by
  unfold laid
  simp [h]
set_option maxRecDepth 100000 in
set_option maxHeartbeats 400000 in
theorem low_nat (x n : Nat) (w : World) (hs : n ≤ 8) :
    Calls Tryz.prog 160 #[.int .i64 x, .int .i64 n] w fun e w' => e = .returned (.slice (some ⟨w.heap.size, 0, none⟩) n n) ∧ Bb w' w.heap.size 5 (leB n x) ∧ Below w.heap.size w w' := by
  have hmk := mk_bytes n n rfl (by omega)
  have hb0 := Bb.made w n
  have hbl := below_new w (zeroBytes n)
  have HB := Lib.hid hb0
  have HL := Lib.hid hbl
  clear hb0 hbl
  go_enter Tryz.func160, Tryz.ntmps160
  go_wp2
  go_loopw [11] (fun i wr => ∃ k : Nat, k ≤ n ∧ i = .int .i64 k ∧ Bb wr w.heap.size 5 (laid (List.replicate n 0) 0 (leB k x)) ∧ Below w.heap.size w wr) (fun i _ => n - (intOf i).toNat)
  case atStart => exact ⟨0, Nat.zero_le _, rfl, by rw [show leB 0 x = [] from rfl, laid_nil]; exact HB.out, HL.out⟩
  case round =>
    obtain ⟨k, hk, rfl, hbk, hg⟩ := hrel
    by_cases hlt : k < n
    · have hi : (k : Int) < n := by omega
      have hl : (laid (List.replicate n 0) 0 (leB k x)).length = n := by rw [laid_len _ _ _ (by rw [leB_len, List.length_replicate]; omega), List.length_replicate]
      obtain ⟨y, hy, hc⟩ := hbk.get (i := k) (by omega)
      have hf := hbk.thaw k
      have Hb := Lib.hid hbk
      have Hl := Lib.hid hl
      clear hbk hl hy
      go_wp2
      go_roundw
      case rel =>
        refine ⟨k + 1, by omega, by go_num, ?_, hg.setCell (Nat.le_refl _) _⟩
        have h1 := Hb.out.put k (byteAt x k)
        have h2 := laid_snoc (List.replicate n 0) (leB k x) 0 (byteAt x k) (by rw [leB_len, List.length_replicate]; omega)
        rw [leB_len, Nat.zero_add] at h2
        rw [h2, ← leB_snoc, ← byteAt_w8] at h1
        exact h1
      case measure => simp [intOf]; omega
    · have hkn : k = n := by omega
      subst hkn
      go_wp2
      go_ret
      rw [laid_all _ _ (leB_len _ _)] at hbk
      exact ⟨rfl, hbk, hg⟩
theorem Bb.owns {w : World} {g n : Nat} {l : List UInt8} (h : Bb w g 5 l) (hn : l.length = n) (hb : n ≤ 9223372036854775807) : OwnAt w g n l :=
  ⟨by omega, hb, _, h, by simp [bvs_len, hn], by rw [List.take_of_length_le (by simp [bvs_len])]⟩
/-- the same, of an Int; the bytes are the call's own -/
theorem low_int (x : Int) (n : Nat) (nz : Int) (hz : nz = n) (w : World) (h0 : 0 ≤ x) (hs : n ≤ 8) (w0 : World) (B : Nat) (hb : Below B w0 w) (hB : B ≤ w.heap.size) :
    Calls Tryz.prog 160 #[.int .i64 x, .int .i64 nz] w fun e w' => ∃ g, e = .returned (.slice (some ⟨g, 0, none⟩) n n) ∧ OwnB w' B (.slice (some ⟨g, 0, none⟩) n n) (leB n x.toNat) ∧ Below B w0 w' ∧ B ≤ w'.heap.size := by
  subst hz
  obtain ⟨k, rfl⟩ := Int.eq_ofNat_of_zero_le h0
  refine (low_nat k n w hs).mono ?_
  rintro e w' ⟨he, hb', hB'⟩
  exact ⟨_, he, (hb'.owns (leB_len _ _) (by omega)).own hB n (leB_len _ _), hb.trans (below_le hB hB'), Nat.le_trans hB hB'.size⟩
set_option maxRecDepth 100000 in
/-- 'append(x, s...)', s a text, on bytes of the call's own -/
theorem wpList_append_text {ops : Array Oper} {rest : List Oper} {o : Oper} {a : Act} {Q : Exit → Act → World → Prop} {w : World} (hgd : o.guard = none) (sl x : Operand)
    (ho : o.op = .call { callee := .builtin .append, args := #[sl, x], argTypes := #[26, 9] }) (B : Nat) (w0 : World) (v : Value) (l : List UInt8) (hs : a.eval sl = v) (hown : OwnB w B v l)
    (s : ByteArray) (hx : a.eval x = .string s) (hsmall : l.length + s.size ≤ 140737488355328) (hb : Below B w0 w) (hB : B ≤ w.heap.size) (N : Nat) (hN : N = l.length + s.size)
    (h : ∀ A' c' w', Hid (OwnB w' B (.slice A' N c') (l ++ s.data.toList)) → Below B w0 w' → B ≤ w'.heap.size → wpList Tryz.prog ops Q rest (a.put o.dst (.slice A' N c')) w') : wpList Tryz.prog ops Q (o :: rest) a w := by
  obtain ⟨i, hi, hz, hs1, hby⟩ := info_byte'
  refine wpList_plain hgd fun K hK => ?_
  obtain ⟨v', w', hr, h2, h3, h4⟩ := Lib.run_append_own_string (P := Tryz.prog) w B 26 9 o.type 5 i Tryz.underlying26 Tryz.underlying9 hi hz hs1 hby v l.length (bvs l) hown s (by unfold maxLen; omega) hsmall hB
  have h2' : OwnB w' B v' (l ++ s.data.toList) := by
    unfold OwnB
    rw [List.length_append, ← Lib.size_eq]
    have e : bvs (l ++ s.data.toList) = bvs l ++ Lib.strCells s := by
      unfold bvs Lib.strCells
      rw [List.map_append]
      rfl
    rw [e]
    exact h2
  obtain ⟨A', c', rfl, _⟩ := h2'.reads
  have e : (l ++ s.data.toList).length = N := by rw [List.length_append, ← Lib.size_eq, hN]
  rw [e] at hr h2'
  unfold Oper.wp execOp
  simp only [ho, resolve, invoke, builtin, Sem.run_bind, Sem.run_pure, Result.andThen_ok, List.map_toArray, List.map_cons, List.map_nil, hs, hx, hr]
  exact hK _ _ (h A' c' w' h2' (hb.grown h3 hB hown.own_lt) (Nat.le_trans hB h3.size))
set_option maxRecDepth 100000 in
/-- the same at a step of a region that draws its order -/
theorem step_append_text {ops : Array Oper} {o : Oper} {a : Act} {w : World} {K : Act → World → Prop} {Q : Exit → Act → World → Prop} {E : Prop} (hgd : o.guard = none) (sl x : Operand)
    (ho : o.op = .call { callee := .builtin .append, args := #[sl, x], argTypes := #[26, 9] }) (B : Nat) (w0 : World) (v : Value) (l : List UInt8) (hs : a.eval sl = v) (hown : OwnB w B v l)
    (s : ByteArray) (hx : a.eval x = .string s) (hsmall : l.length + s.size ≤ 140737488355328) (hb : Below B w0 w) (hB : B ≤ w.heap.size) (N : Nat) (hN : N = l.length + s.size)
    (h : ∀ A' c' w', Hid (OwnB w' B (.slice A' N c') (l ++ s.data.toList)) → Below B w0 w' → Hid (B ≤ w'.heap.size) → K (a.put o.dst (.slice A' N c')) w') :
    if Region.wanted o (yielded ops a.tmps) = true then Oper.wp Tryz.prog o a w K Q else E := by
  have hw : Region.wanted o (yielded ops a.tmps) = true := by simp [Region.wanted, hgd]
  rw [if_pos hw]
  obtain ⟨i, hi, hz, hs1, hby⟩ := info_byte'
  obtain ⟨v', w', hr, h2, h3, h4⟩ := Lib.run_append_own_string (P := Tryz.prog) w B 26 9 o.type 5 i Tryz.underlying26 Tryz.underlying9 hi hz hs1 hby v l.length (bvs l) hown s (by unfold maxLen; omega) hsmall hB
  have h2' : OwnB w' B v' (l ++ s.data.toList) := by
    unfold OwnB
    rw [List.length_append, ← Lib.size_eq]
    have e : bvs (l ++ s.data.toList) = bvs l ++ Lib.strCells s := by
      unfold bvs Lib.strCells
      rw [List.map_append]
      rfl
    rw [e]
    exact h2
  obtain ⟨A', c', rfl, _⟩ := h2'.reads
  have e : (l ++ s.data.toList).length = N := by rw [List.length_append, ← Lib.size_eq, hN]
  rw [e] at hr h2'
  unfold Oper.wp execOp
  simp only [ho, resolve, invoke, builtin, Sem.run_bind, Sem.run_pure, Result.andThen_ok, List.map_toArray, List.map_cons, List.map_nil, hs, hx, hr]
  exact h A' c' w' h2' (hb.grown h3 hB hown.own_lt) (Nat.le_trans hB h3.size)
set_option maxRecDepth 100000 in
/-- 'append(x, y...)' on bytes at a step of a region that draws its order -/
theorem step_append_bytes {ops : Array Oper} {o : Oper} {a : Act} {w : World} {K : Act → World → Prop} {Q : Exit → Act → World → Prop} {E : Prop} (hgd : o.guard = none) (s x : Operand)
    (ho : o.op = .call { callee := .builtin .append, args := #[s, x], argTypes := #[26, 26] }) (B : Nat) (w0 : World) (v : Value) (l : List UInt8) (hs : a.eval s = v) (hown : OwnB w B v l)
    (A : Option Addr) (m c : Nat) (new : List UInt8) (hx : a.eval x = .slice A m c) (hr : RdB w A m c new) (hsmall : l.length + m ≤ 140737488355328) (hb : Below B w0 w) (hB : B ≤ w.heap.size) (N : Nat) (hN : N = l.length + m)
    (h : ∀ A' c' w', Hid (OwnB w' B (.slice A' N c') (l ++ new)) → Below B w0 w' → Hid (B ≤ w'.heap.size) → Hid (w.grownBy w' v.ownBlock) → K (a.put o.dst (.slice A' N c')) w') :
    if Region.wanted o (yielded ops a.tmps) = true then Oper.wp Tryz.prog o a w K Q else E := by
  have hw : Region.wanted o (yielded ops a.tmps) = true := by simp [Region.wanted, hgd]
  rw [if_pos hw]
  obtain ⟨v', w', hrun, h2, h3⟩ := run_append_bytes w B o.type v l hown A m c new hr hsmall hB
  obtain ⟨A', c', rfl, _⟩ := h2.reads
  have e : (l ++ new).length = N := by rw [List.length_append, hr.len, hN]
  rw [e] at hrun h2
  unfold Oper.wp execOp
  simp only [ho, resolve, invoke, builtin, Sem.run_bind, Sem.run_pure, Result.andThen_ok, List.map_toArray, List.map_cons, List.map_nil, hs, hx, hrun]
  exact h A' c' w' h2 (hb.grown h3 hB hown.own_lt) (Nat.le_trans hB h3.size) h3
theorem OwnB.more {w : World} {B B' : Nat} {v : Value} {l : List UInt8} (h : OwnB w B' v l) (hB : B ≤ B') : OwnB w B v l :=
  ⟨h.1, h.2.imp id fun ⟨g, cap, cur, e1, e2, e3⟩ => ⟨g, cap, cur, e1, Nat.le_trans hB e2, e3⟩⟩
set_option maxRecDepth 100000 in
set_option maxHeartbeats 1000000 in
theorem written_num (size lo hi most n : Int) (k : Nat) (hk : size = k) (hk8 : k ≤ 8) (h0 : 0 ≤ n) (s : ByteArray) (A : Option Addr) (N c : Nat) (w : World) :
    Calls Tryz.prog 105 #[.agg #[.int .i64 1, .int .i64 size, .int .i64 lo, .int .i64 hi, .int .i64 most], .agg #[.int .i64 n, .string s, .slice A N c]] w fun e w' => ∃ A' c', e = .returned (.slice A' k c') ∧ OwnB w' w.heap.size (.slice A' k c') (leB k n.toNat) ∧ Below w.heap.size w w' := by
  have hb0 := below_new w (.cells #[.int .i64 1, .int .i64 size, .int .i64 lo, .int .i64 hi, .int .i64 most] 193)
  have hb1 := Lib.hid (hb0.trans (below_le hb0.size (below_new _ (.cells #[.int .i64 n, .string s, .slice A N c] 198))))
  have hL := Lib.hid (low_int n k size hk _ h0 hk8 w w.heap.size hb1.out hb1.out.size)
  clear hb0 hk
  go_enter Tryz.func105, Tryz.ntmps105
  go_wp2_with (first | (go_at_call 160; (with_reducible refine hL.out.mono ?_); rintro e w1 ⟨g, rfl, ho1, hb2, _⟩) | fail)
  go_ret
  exact ⟨_, _, rfl, ho1, hb2⟩
set_option maxRecDepth 100000 in
set_option maxHeartbeats 2000000 in
theorem written_text (size lo hi most n : Int) (s : ByteArray) (hs : s.size ≤ 65535) (A : Option Addr) (N c : Nat) (w : World) :
    Calls Tryz.prog 105 #[.agg #[.int .i64 2, .int .i64 size, .int .i64 lo, .int .i64 hi, .int .i64 most], .agg #[.int .i64 n, .string s, .slice A N c]] w fun e w' => ∃ A' c', e = .returned (.slice A' (2 + s.size) c') ∧ OwnB w' w.heap.size (.slice A' (2 + s.size) c') (txtB s) ∧ Below w.heap.size w w' := by
  have hb0 := below_new w (.cells #[.int .i64 2, .int .i64 size, .int .i64 lo, .int .i64 hi, .int .i64 most] 193)
  have hb1 := hb0.trans (below_le hb0.size (below_new _ (.cells #[.int .i64 n, .string s, .slice A N c] 198)))
  have HB1 := Lib.hid hb1
  clear hb0 hb1
  go_enter Tryz.func105, Tryz.ntmps105
  go_wp2_with fail
  refine wp_cut (fun w' => Below w.heap.size w w' ∧ w.heap.size + 1 < w'.heap.size ∧ w'.cell? ⟨w.heap.size + 1, 1, none⟩ = some (.string s)) ⟨HB1.out, by simp, by simp [World.cell?_alloc_at]⟩ ?_
  rintro w1 ⟨hB1, hs1, hc1⟩
  have FS : Hid (∀ w', Below w1.heap.size w1 w' → (Below w1.heap.size w1 w' ∧ w'.cell? ⟨w.heap.size + 1, 1, none⟩ = some (.string s))) := fun w' hb => ⟨hb, (hb.cell (p := ⟨w.heap.size + 1, 1, none⟩) hs1).trans hc1⟩
  have r0 := below_drew1 (Below.refl w1.heap.size w1)
  have hL := Lib.hid (low_int s.size 2 2 rfl w1.drew (by omega) (by omega) w1 w1.heap.size r0 r0.size)
  have Hb1 := Lib.hid hB1
  have HS := Lib.hid hs
  clear hc1 hB1 HB1 hs
  go_region_held3 (fun w' => Below w1.heap.size w1 w' ∧ w'.cell? ⟨w.heap.size + 1, 1, none⟩ = some (.string s)) (first | exact FS.out _ hB4 | exact FS.out _ hB3 | exact FS.out _ r0) (first | (go_at_call 160; (with_reducible refine hL.out.mono ?_); rintro e w3 ⟨g3, rfl, ho3, hB3, hs3⟩) | ((refine step_append_text (by rfl) (.tmp 22) (.tmp 24) (by rfl) w1.heap.size w1 _ (leB 2 s.size) (by rfl) ho3 s (by rfl) (by rw [leB_len]; have := HS.out; omega) hB3 hs3 (2 + s.size) (by rw [leB_len]) ?_; intro A4 c4 w4 ho4 hB4 hs4)) | fail)
  go_wp2_with fail
  go_ret
  exact ⟨_, _, rfl, ho4.out.more Hb1.out.size, Hb1.out.trans (below_le Hb1.out.size hB4)⟩
theorem OwnB.ext {w w' : World} {B : Nat} {v : Value} {l : List UInt8} (h : OwnB w B v l) (hb : Below w.heap.size w w') : OwnB w' B v l := World.ownsRow.kept h (grown_of_below hb) (Classical.em _)
theorem calls_cut {P : Program} {f : FuncId} {args : Array Value} {Q : Ending → World → Prop} {W : World} (F : World → Prop) (hF : F W) (h : ∀ w', F w' → Calls P f args w' Q) : Calls P f args W Q := h W hF
theorem txts_le (l : List ByteArray) (h : ∀ s ∈ l, (s.size : Int) ≤ 65535) : (l.flatMap txtB).length ≤ 65537 * l.length := by
  induction l with
  | nil => simp
  | cons s l ih =>
    have h1 := ih (fun x hx => h x (List.mem_cons_of_mem _ hx))
    have h2 := h s List.mem_cons_self
    rw [List.flatMap_cons, List.length_append, List.length_cons, txtB_len]
    omega
theorem txts_next {l : List ByteArray} {k : Nat} {s : ByteArray} (h : l[k]? = some s) : (l.take (k + 1)).flatMap txtB = (l.take k).flatMap txtB ++ (leB 2 s.size ++ s.data.toList) := by
  rw [List.take_add_one, h, List.flatMap_append]
  congr 1
  simp [txtB]
set_option maxRecDepth 100000 in
set_option maxHeartbeats 4000000 in
theorem written_texts (size lo hi most n : Int) (s : ByteArray) (A : Option Addr) (N c : Nat) (l : List ByteArray) (w : World) (h : RdT w A N c l) (hN : N ≤ 255) (hl : ∀ s ∈ l, (s.size : Int) ≤ 65535) :
    Calls Tryz.prog 105 #[.agg #[.int .i64 3, .int .i64 size, .int .i64 lo, .int .i64 hi, .int .i64 most], .agg #[.int .i64 n, .string s, .slice A N c]] w fun e w' => ∃ A' M c', e = .returned (.slice A' M c') ∧ OwnB w' w.heap.size (.slice A' M c') (leB 1 l.length ++ l.flatMap txtB) ∧ Below w.heap.size w w' := by
  have hb0 := below_new w (.cells #[.int .i64 3, .int .i64 size, .int .i64 lo, .int .i64 hi, .int .i64 most] 193)
  have hb1 := hb0.trans (below_le hb0.size (below_new _ (.cells #[.int .i64 n, .string s, .slice A N c] 198)))
  have HB1 := Lib.hid hb1
  have hcap := Rd.cap h
  have hbig := Rd.big h
  have HL := Lib.hid h.len
  have H := Lib.hid h
  have Hl := Lib.hid hl
  clear hb0 hb1 h hl
  go_enter Tryz.func105, Tryz.ntmps105
  go_wp2_with fail
  refine calls_cut (fun w' => Below w.heap.size w w' ∧ w.heap.size + 1 < w'.heap.size ∧ w'.cell? ⟨w.heap.size + 1, 2, none⟩ = some (.slice A N c)) ⟨HB1.out, by simp, by simp [World.cell?_alloc_at]⟩ ?_
  rintro w1 ⟨hB1, hs1, hc1⟩
  have HC1 := Lib.hid hc1
  have Hb1 := Lib.hid hB1
  have hL := Lib.hid (low_int N 1 1 rfl w1 (by omega) (by omega) w1 w1.heap.size (Below.refl _ _) (Nat.le_refl _))
  clear HB1 hB1
  refine hL.out.mono ?_
  rintro e w2 ⟨g2, rfl, ho2, hB2, hs2⟩
  have hc2 := (hB2.cell (p := ⟨w.heap.size + 1, 2, none⟩) hs1).trans HC1.out
  go_wp2_with fail
  have HO2 := Lib.hid ho2
  have HB2 := Lib.hid hB2
  clear ho2 hB2 hc2 hL hs2
  go_loopw [5, 33] (fun o i wr => ∃ (k M : Nat) (A3 : Option Addr) (c3 : Nat), k ≤ N ∧ i = .int .i64 k ∧ o = .slice A3 M c3 ∧ Hid (OwnB wr w1.heap.size (.slice A3 M c3) (leB 1 N ++ (l.take k).flatMap txtB)) ∧ Below w1.heap.size w1 wr ∧ Hid (w1.heap.size ≤ wr.heap.size)) (fun _ i _ => N - (intOf i).toNat)
  case atStart => exact ⟨0, 1, _, _, Nat.zero_le _, rfl, rfl, by rw [List.take_zero, List.flatMap_nil, List.append_nil]; exact HO2.out, HB2.out, HB2.out.size⟩
  case round =>
    obtain ⟨k, M, A3, c3, hk, rfl, rfl, hown, hb, hB⟩ := hrel
    by_cases hlt : k < N
    · have hi : (k : Int) < N := by omega
      have hkl : k < l.length := by have := HL.out; omega
      obtain ⟨x, hx⟩ : ∃ x, l[k]? = some x := ⟨l[k], List.getElem?_eq_getElem hkl⟩
      have hxs := Hl.out x (List.mem_of_getElem? hx)
      obtain ⟨ad, rfl, _, hce⟩ := Rd.cell (H.out.ext (Hb1.out.trans (below_le Hb1.out.size hb))) k (.string x) (by rw [List.getElem?_map, hx]; rfl)
      have hL := Lib.hid (low_int x.size 2 2 rfl wr (by omega) (by omega) wr wr.heap.size (Below.refl _ _) (Nat.le_refl _))
      have hln : Hid ((leB 1 N ++ (l.take k).flatMap txtB).length = M) := by
        have := hown.out.rd.len
        exact this
      have hle : Hid ((leB 1 N ++ (l.take k).flatMap txtB).length ≤ 20000000) := by
        show (leB 1 N ++ (l.take k).flatMap txtB).length ≤ 20000000
        have h3 := txts_le (l.take k) (fun s hs => Hl.out s (List.mem_of_mem_take hs))
        rw [List.length_take] at h3
        rw [List.length_append, leB_len]
        have : min k l.length ≤ 255 := by omega
        have : 65537 * min k l.length ≤ 65537 * 255 := Nat.mul_le_mul_left _ this
        omega
      have HX := Lib.hid hx
      have HXs := Lib.hid (show x.size ≤ 65535 by omega)
      have HB := Lib.hid hb
      clear hx hxs hkl hb
      go_wp2_with (first | (go_at_call 160; (with_reducible refine hL.out.mono ?_); rintro e w3 ⟨g3, rfl, ho3, hB3, hs3⟩; have HO3 := Lib.hid ho3; have HB3 := Lib.hid hB3; clear ho3 hB3 hs3) | (at_builtin; refine wpList_append_bytes rfl (.tmp 37) (.tmp 40) rfl w1.heap.size w1 _ _ rfl (hown.out.ext HB3.out) _ 2 2 (leB 2 x.size) rfl HO3.out.rd (by have := hle.out; omega) (HB.out.trans (below_le hB.out HB3.out)) (Nat.le_trans hB.out HB3.out.size) (M + 2) (by rw [hln.out]) ?_; intro A4 c4 w4 ho4 hb4 hB4; have HO4 := Lib.hid ho4; have HB4 := Lib.hid hb4; have hB4' := Lib.hid hB4; clear hb4 hB4 ho4) | (at_builtin; refine wpList_append_text rfl (.tmp 41) (.tmp 42) rfl w1.heap.size w1 _ _ rfl HO4.out.out x rfl (by have := hle.out; have := HXs.out; rw [List.length_append, leB_len]; omega) HB4.out hB4'.out (M + 2 + x.size) (by rw [List.length_append, leB_len, hln.out]) ?_; intro A5 c5 w5 ho5 hb5 hB5) | fail)
      go_roundw
      case rel => exact ⟨k + 1, M + 2 + x.size, A5, c5, by omega, by go_num, rfl, by rw [txts_next HX.out, ← List.append_assoc, ← List.append_assoc]; exact ho5, hb5, hB5⟩
      case measure => simp [intOf]; omega
    · have hkn : k = N := by omega
      subst hkn
      go_wp2
      go_ret
      have ho := hown.out
      rw [List.take_of_length_le (by have := HL.out; omega)] at ho
      rw [HL.out]
      exact ⟨_, _, _, rfl, ho.more Hb1.out.size, Hb1.out.trans (below_le Hb1.out.size hb)⟩
theorem written_any (f : Fld) (hf : GoodF f) (m : MVal) (hfit : fitsV f m.v = true) (w : World) (hm : m.ok w) :
    Calls Tryz.prog 105 #[.agg #[.int .i64 f.kind, .int .i64 f.size, .int .i64 f.lo, .int .i64 f.hi, .int .i64 f.most], .agg #[.int .i64 m.v.n, .string m.v.s, .slice m.A m.n m.c]] w fun e w' => ∃ A' M c', e = .returned (.slice A' M c') ∧ OwnB w' w.heap.size (.slice A' M c') (writV f m.v) ∧ Below w.heap.size w w' := by
  obtain ⟨k, size, lo, hi, most⟩ := f
  obtain ⟨⟨n, s, l⟩, A, N, c⟩ := m
  rcases hf.kind with ⟨k1, a1, a2, a3, a4⟩ | ⟨k1, a1, a2⟩ | ⟨k1, a1, a2, a3⟩
  · obtain rfl : k = 1 := k1
    obtain ⟨n', e, h1, h2⟩ := fits_num rfl hfit
    obtain rfl : n = n' := congrArg Val.n e
    have a1 : 0 ≤ lo := a1
    have h1 : lo ≤ n := h1
    have a2 : 0 < size := a2
    have a3 : size ≤ 8 := a3
    refine (written_num size lo hi most n size.toNat (by omega) (by omega) (by omega) s A N c w).mono ?_
    rintro e w' ⟨A', c', he, ho, hb⟩
    exact ⟨A', _, c', he, ho, hb⟩
  · obtain rfl : k = 2 := k1
    obtain ⟨s', e, h1, h2⟩ := fits_text rfl hfit
    obtain rfl : s = s' := congrArg Val.s e
    have h2 : (s.size : Int) ≤ hi := h2
    have a2 : hi ≤ 65535 := a2
    refine (written_text size lo hi most n s (by omega) A N c w).mono ?_
    rintro e w' ⟨A', c', he, ho, hb⟩
    exact ⟨A', _, c', he, ho, hb⟩
  · obtain rfl : k = 3 := k1
    obtain ⟨l', e, h1, h2, h3⟩ := fits_texts rfl hfit
    obtain rfl : l = l' := congrArg Val.l e
    have h2 : (l.length : Int) ≤ hi := h2
    have a2 : hi ≤ 255 := a2
    have a3 : most ≤ 65535 := a3
    have hN : l.length = N := RdT.len hm
    exact written_texts size lo hi most n s A N c l w hm (by omega) (fun s hs => Int.le_trans (h3 s hs) a3)
end Go.Proofs.YtkdlofgfkfhofaaGreatDoor

/-
  gram: Put.
-/
namespace Go.Proofs.YtkdlofgfkfhofaaGreatDoor
open Go.RowKit
attribute [local go_sem ↓] ldF_eq ldV_eq

def stF (v u : Value) : Sem Unit := Instr.storeAt 193 v u
theorem stF_eq (v u : Value) : Instr.storeAt 193 v u = stF v u := rfl
theorem one_f (f : Fld) : ∀ u ∈ f.cells, u.oneCell' = true := fun u hu => by
  unfold Fld.cells at hu
  simp only [List.mem_cons, List.mem_nil_iff, or_false] at hu
  rcases hu with rfl | rfl | rfl | rfl | rfl <;> rfl
theorem stF_new (w : World) (f : Fld) : (stF (.pointer (some ⟨w.heap.size, 0, none⟩)) (.agg #[.int .i64 f.kind, .int .i64 f.size, .int .i64 f.lo, .int .i64 f.hi, .int .i64 f.most])).run Tryz.prog (w.alloc (.cells #[.int .i64 0, .int .i64 0, .int .i64 0, .int .i64 0, .int .i64 0] 193)) = .ok () (w.alloc (.cells #[.int .i64 f.kind, .int .i64 f.size, .int .i64 f.lo, .int .i64 f.hi, .int .i64 f.most] 193)) := by
  exact run_storeAt_new w 193 _ _ size_f rfl (all_oneCell_toArray (cs := f.cells) (one_f f))
attribute [local go_sem ↓] stF_eq
theorem writV_le {f : Fld} (hf : GoodF f) {v : Val} (h : fitsV f v = true) : (writV f v).length ≤ 20000000 := by
  obtain ⟨n, s, l⟩ := v
  unfold writV
  rcases hf.kind with ⟨k1, a1, a2, a3, a4⟩ | ⟨k1, a1, a2⟩ | ⟨k1, a1, a2, a3⟩
  · rw [if_pos k1, leB_len]; omega
  · obtain ⟨s', e, h1, h2⟩ := fits_text k1 h
    obtain rfl : s = s' := congrArg Val.s e
    rw [if_neg (by omega), if_pos k1]
    show (txtB s).length ≤ _
    rw [txtB_len]; omega
  · obtain ⟨l', e, h1, h2, h3⟩ := fits_texts k1 h
    obtain rfl : l = l' := congrArg Val.l e
    rw [if_neg (by omega), if_neg (by omega), List.length_append, leB_len]
    have h4 := txts_le l (fun s hs => Int.le_trans (h3 s hs) a3)
    have h5 : l.length ≤ 255 := by omega
    have h6 : 65537 * l.length ≤ 65537 * 255 := Nat.mul_le_mul_left _ h5
    show 1 + (l.flatMap txtB).length ≤ _
    omega
/-- the bytes of the first k -/
def upB (fs : List Fld) (vs : List Val) (k : Nat) : List UInt8 := ((List.zip fs vs).take k).flatMap (fun p => writV p.1 p.2)
def upOk (fs : List Fld) (vs : List Val) (k : Nat) : Bool := ((List.zip fs vs).take k).all (fun p => fitsV p.1 p.2)
theorem up_next {fs : List Fld} {vs : List Val} {k : Nat} {f : Fld} {v : Val} (h1 : fs[k]? = some f) (h2 : vs[k]? = some v) : upB fs vs (k + 1) = upB fs vs k ++ writV f v ∧ upOk fs vs (k + 1) = (upOk fs vs k && fitsV f v) := by
  have hz : (List.zip fs vs)[k]? = some (f, v) := by rw [List.getElem?_zip_eq_some]; exact ⟨h1, h2⟩
  unfold upB upOk
  rw [List.take_add_one, hz, List.flatMap_append, List.all_append]
  exact ⟨by simp, by simp⟩
theorem upB_le {fs : List Fld} {vs : List Val} (hg : ∀ f ∈ fs, GoodF f) : ∀ k, upOk fs vs k = true → (upB fs vs k).length ≤ 20000000 * k
  | 0, _ => by simp [upB]
  | k + 1, h => by
    by_cases hk : k < (List.zip fs vs).length
    · have hk1 : k < fs.length := by rw [List.length_zip] at hk; omega
      have hk2 : k < vs.length := by rw [List.length_zip] at hk; omega
      obtain ⟨e1, e2⟩ := up_next (List.getElem?_eq_getElem hk1) (List.getElem?_eq_getElem hk2)
      rw [e2, Bool.and_eq_true] at h
      have := upB_le hg k h.1
      have := writV_le (hg _ (List.getElem_mem hk1)) h.2
      rw [e1, List.length_append]
      omega
    · have e : upB fs vs (k + 1) = upB fs vs k := by unfold upB; rw [List.take_of_length_le (by omega), List.take_of_length_le (by omega)]
      have e2 : upOk fs vs (k + 1) = upOk fs vs k := by unfold upOk; rw [List.take_of_length_le (by omega), List.take_of_length_le (by omega)]
      rw [e2] at h
      have := upB_le hg k h
      rw [e]; omega
theorem upOk_not {fs : List Fld} {vs : List Val} {k : Nat} (h : upOk fs vs k = false) : okAll fs vs = false := by
  unfold upOk at h
  unfold okAll
  rw [List.all_eq_false] at h
  obtain ⟨p, hp, hq⟩ := h
  rw [Bool.and_eq_false_iff]
  exact .inr (List.all_eq_false.2 ⟨p, List.mem_of_mem_take hp, hq⟩)
def opPut : ByteArray := ⟨#[103, 114, 97, 109, 46, 80, 117, 116]⟩
/-- what Put hands back -/
def PutE (fs : List Fld) (vs : List Val) (w w' : World) (e : Ending) : Prop :=
  (okAll fs vs = true ∧ ∃ A' M c', e = .returned (.tuple #[.slice A' M c', .nilIface]) ∧ OwnB w' w.heap.size (.slice A' M c') (bytesAll fs vs)) ∨ (okAll fs vs = false ∧ ∃ v k, e = .returned (.tuple #[.slice none 0 0, v]) ∧ IsErr 1 v k)
set_option maxRecDepth 100000 in
set_option maxHeartbeats 4000000 in
theorem fput_any (A : Option Addr) (n c : Nat) (fs : List Fld) (Av : Option Addr) (nv cv : Nat) (ms : List MVal) (w : World) (hf : ∀ f ∈ fs, f ∈ someF) (h : RdF w A n c fs) (hv : RdV w Av nv cv ms) (hn : n ≤ 100) :
    Calls Tryz.prog 59 #[.slice A n c, .slice Av nv cv] w fun e w' => PutE fs (vsOf ms) w w' e ∧ Below w.heap.size w w' := by
  have hW := Lib.hid (wrong_any A n c fs hf w h)
  have hcap := h.cap
  have hbig := h.big
  have hlen := h.len
  rw [List.length_map] at hlen
  have HL := Lib.hid hlen
  have H := Lib.hid h
  have hlv := hv.rows.len
  rw [List.length_map] at hlv
  have HLV := Lib.hid hlv
  have HV := Lib.hid hv
  have HF := Lib.hid hf
  have hcv := hv.rows.cap
  have hbv := hv.rows.big
  clear h hf hlen hv hlv
  by_cases hnn : nv = n
  · subst hnn
    go_enter Tryz.func59, Tryz.ntmps59
    go_wp2_with (first | (go_at_call 103; (with_reducible refine hW.out.mono ?_); rintro e w1 ⟨rfl, hb1⟩) | fail)
    have HB1 := Lib.hid hb1
    clear hb1 hW
    go_loopw [7, 28] (fun o i wr => ∃ (k M : Nat) (A3 : Option Addr) (c3 : Nat), k ≤ nv ∧ i = .int .i64 k ∧ o = .slice A3 M c3 ∧ Hid (OwnB wr w.heap.size (.slice A3 M c3) (upB fs (vsOf ms) k)) ∧ Hid (upOk fs (vsOf ms) k = true) ∧ Hid (Below w.heap.size w wr)) (fun _ i _ => nv - (intOf i).toNat)
    case atStart => exact ⟨0, 0, none, 0, Nat.zero_le _, rfl, rfl, OwnB.nil _ _, rfl, HB1.out⟩
    case round =>
      obtain ⟨k, M, A3, c3, hk, rfl, rfl, hown, hok, hbw⟩ := hrel
      by_cases hlt : k < nv
      · have hi : (k : Int) < nv := by omega
        obtain ⟨f, hfk⟩ : ∃ f, fs[k]? = some f := ⟨fs[k]'(by have := HL.out; omega), List.getElem?_eq_getElem _⟩
        obtain ⟨m, hmk⟩ : ∃ m, ms[k]? = some m := ⟨ms[k]'(by have := HLV.out; omega), List.getElem?_eq_getElem _⟩
        obtain ⟨g, rfl, hgl, hce⟩ := (H.out.ext hbw.out).cell k f.cells (by rw [List.getElem?_map, hfk]; rfl)
        obtain ⟨gv, rfl, hgvw, hcev⟩ := HV.out.rows.cell k m.cells (by rw [List.getElem?_map, hmk]; rfl)
        have hcev : ∀ (j : Nat) (u : Value), m.cells[j]? = some u → wr.cell? ⟨gv, k * 3 + j, none⟩ = some u := fun j u hu => (hbw.out.cell (p := ⟨gv, k * 3 + j, none⟩) hgvw).trans (hcev j u hu)
        have hgvl : gv < wr.heap.size := Nat.lt_of_lt_of_le hgvw hbw.out.size
        have hob : Hid (∀ j, (Value.slice A3 M c3).ownBlock = some j → w.heap.size ≤ j ∧ j < wr.heap.size) := fun j hj => World.ownsRow.lt hown.out j hj
        have hld := ldF_at hce
        have hst := stF_new wr f
        have hgood : GoodF f := someF_good f (HF.out f (List.mem_of_getElem? hfk))
        have Hmk := Lib.hid (HV.out.vals m (List.mem_of_getElem? hmk))
        have hvk : (vsOf ms)[k]? = some m.v := by unfold vsOf; rw [List.getElem?_map, hmk]; rfl
        have HN := Lib.hid (up_next hfk hvk)
        have HCev := Lib.hid hcev
        have Hgood := Lib.hid hgood
        clear hce hfk hmk hcev hgood hvk
        have hbn := hbw.out.trans (below_le hbw.out.size (below_new wr (.cells #[.int .i64 f.kind, .int .i64 f.size, .int .i64 f.lo, .int .i64 f.hi, .int .i64 f.most] 193)))
        have hnew := (Bk.made wr 193 f.cells.toArray)
        have how1 := hown.out.ext (below_new wr (.cells #[.int .i64 f.kind, .int .i64 f.size, .int .i64 f.lo, .int .i64 f.hi, .int .i64 f.most] 193))
        have hgv1 : gv < (wr.alloc (.cells #[.int .i64 f.kind, .int .i64 f.size, .int .i64 f.lo, .int .i64 f.hi, .int .i64 f.most] 193)).heap.size := by simp; omega
        have hcv1 : ∀ (j : Nat) (u : Value), m.cells[j]? = some u → (wr.alloc (.cells #[.int .i64 f.kind, .int .i64 f.size, .int .i64 f.lo, .int .i64 f.hi, .int .i64 f.most] 193)).cell? ⟨gv, k * 3 + j, none⟩ = some u := fun j u hu => ((below_new wr _).cell (p := ⟨gv, k * 3 + j, none⟩) hgvl).trans (HCev.out j u hu)
        have HBn := Lib.hid hbn
        have HNew := Lib.hid hnew
        have HOw := Lib.hid how1
        have HCv := Lib.hid hcv1
        have HGv := Lib.hid hgv1
        clear hbn hnew how1 hcv1 HCev hgv1
        go_wp2_with fail
        refine wp_cut (fun w' => Below w.heap.size w w' ∧ Bk w' wr.heap.size 193 f.cells.toArray ∧ OwnB w' w.heap.size (.slice A3 M c3) (upB fs (vsOf ms) k) ∧ gv < w'.heap.size ∧ ∀ (j : Nat) (u : Value), m.cells[j]? = some u → w'.cell? ⟨gv, k * 3 + j, none⟩ = some u) ⟨HBn.out, HNew.out, HOw.out, HGv.out, HCv.out⟩ ?_
        rintro w1 ⟨hBn, hbk, hO1, hgv, hcv⟩
        have FS : Hid (∀ w', w1.grownBy w' (Value.slice A3 M c3).ownBlock → (w1.grownBy w' (Value.slice A3 M c3).ownBlock ∧ (ldF (.pointer (some ⟨wr.heap.size, 0, none⟩))).run Tryz.prog w' = .ok (.agg #[.int .i64 f.kind, .int .i64 f.size, .int .i64 f.lo, .int .i64 f.hi, .int .i64 f.most]) w' ∧ (ldV (.pointer (some ⟨gv, k * 3, none⟩))).run Tryz.prog w' = .ok (.agg #[.int .i64 m.v.n, .string m.v.s, .slice m.A m.n m.c]) w')) := fun w' hg =>
          ⟨hg, ldF_at (fun j u hu => by rw [Nat.zero_add]; exact hg.cell ((hbk.cell j).trans (by simpa using hu)) (fun e => Nat.lt_irrefl _ (show wr.heap.size < wr.heap.size from (hob.out _ e.symm).2))), ldV_at (fun j u hu => hg.cell (hcv j u hu) (fun e => Nat.lt_irrefl _ (Nat.lt_of_lt_of_le hgvw (show w.heap.size ≤ gv from (hob.out _ e.symm).1))))⟩
        have HBn1 := Lib.hid hBn
        have HO1 := Lib.hid hO1
        have r0 := below_drew1 (Below.refl w1.heap.size w1)
        have hFit := fits_any f Hgood.out m w1.drew (MVal.ext Hmk.out (below_drew1 hBn))
        clear HBn HNew HOw HCv HGv hBn hbk hO1 hgv hcv hld hst
        cases hfv : fitsV f m.v
        · rw [hfv] at hFit
          have HFit := Lib.hid hFit
          clear hFit
          go_region_held3 (fun w' => w1.grownBy w' (Value.slice A3 M c3).ownBlock ∧ (ldF (.pointer (some ⟨wr.heap.size, 0, none⟩))).run Tryz.prog w' = .ok (.agg #[.int .i64 f.kind, .int .i64 f.size, .int .i64 f.lo, .int .i64 f.hi, .int .i64 f.most]) w' ∧ (ldV (.pointer (some ⟨gv, k * 3, none⟩))).run Tryz.prog w' = .ok (.agg #[.int .i64 m.v.n, .string m.v.s, .slice m.A m.n m.c]) w') (first | exact FS.out _ ((grown_of_below hB3).but _) | exact FS.out _ ((grown_of_below r0).but _)) (first | (go_at_call 104; (with_reducible refine HFit.out.mono ?_); rintro e w3 ⟨rfl, hb3⟩; have hB3 : Below w1.heap.size w1 w3 := r0.trans hb3) | fail)
          go_wp2_with (first | (go_at_call 39; refine (wrap_err (.no 2) _ _ _).mono ?_; rintro e w4 ⟨v4, rfl, he4, rfl⟩) | fail)
          go_ret2
          have hB3 : Below w1.heap.size w1 w4 := by assumption
          refine ⟨.inr ⟨upOk_not (k := k + 1) (by rw [HN.out.2, hfv, Bool.and_false]), _, _, rfl, he4⟩, HBn1.out.trans (below_le HBn1.out.size hB3)⟩
        · rw [hfv] at hFit
          have HFit := Lib.hid hFit
          clear hFit
          go_region_held3 (fun w' => w1.grownBy w' (Value.slice A3 M c3).ownBlock ∧ (ldF (.pointer (some ⟨wr.heap.size, 0, none⟩))).run Tryz.prog w' = .ok (.agg #[.int .i64 f.kind, .int .i64 f.size, .int .i64 f.lo, .int .i64 f.hi, .int .i64 f.most]) w' ∧ (ldV (.pointer (some ⟨gv, k * 3, none⟩))).run Tryz.prog w' = .ok (.agg #[.int .i64 m.v.n, .string m.v.s, .slice m.A m.n m.c]) w') (first | exact FS.out _ ((grown_of_below hB3).but _) | exact FS.out _ ((grown_of_below r0).but _)) (first | (go_at_call 104; (with_reducible refine HFit.out.mono ?_); rintro e w3 ⟨rfl, hb3⟩; have hB3 : Below w1.heap.size w1 w3 := r0.trans hb3) | fail)
          have HB3 := Lib.hid hB3
          have r3 := below_drew1 hB3
          have HLe := Lib.hid (upB_le (fun f hf => someF_good f (HF.out f hf)) k hok.out)
          have hln : Hid ((upB fs (vsOf ms) k).length = M) := HO1.out.rd.len
          have hWr := written_any f Hgood.out m hfv w3.drew (MVal.ext Hmk.out (HBn1.out.trans (below_le HBn1.out.size r3)))
          have HWr := Lib.hid hWr
          have HWl := Lib.hid (writV_le Hgood.out hfv)
          have hS1 := Lib.hid HBn1.out.size
          clear hWr hB3 HFit
          go_wp2_with fail
          go_region_held3 (fun w' => w1.grownBy w' (Value.slice A3 M c3).ownBlock ∧ (ldF (.pointer (some ⟨wr.heap.size, 0, none⟩))).run Tryz.prog w' = .ok (.agg #[.int .i64 f.kind, .int .i64 f.size, .int .i64 f.lo, .int .i64 f.hi, .int .i64 f.most]) w' ∧ (ldV (.pointer (some ⟨gv, k * 3, none⟩))).run Tryz.prog w' = .ok (.agg #[.int .i64 m.v.n, .string m.v.s, .slice m.A m.n m.c]) w') (first | exact FS.out _ (((grown_of_below hB4).but _).trans hg5.out) | exact FS.out _ ((grown_of_below hB4).but _) | exact FS.out _ ((grown_of_below r3).but _)) (first | (go_at_call 105; (with_reducible refine HWr.out.mono ?_); rintro e w4 ⟨A4, M4, c4, rfl, ho4, hb4⟩; have hB4 : Below w1.heap.size w1 w4 := r3.trans (below_le r3.size hb4); have HO4 := Lib.hid ho4; clear ho4) | ((refine step_append_bytes (by rfl) (.tmp 43) (.tmp 49) (by rfl) w.heap.size w _ (upB fs (vsOf ms) k) (by rfl) (HO1.out.ext hB4) A4 M4 c4 (writV f m.v) (by rfl) HO4.out.rd (by have := HLe.out; have := HWl.out; have := HO4.out.rd.len; omega) (HBn1.out.trans (below_le hS1.out hB4)) (Nat.le_trans hS1.out hB4.size) (M + M4) (by rw [hln.out]) ?_; intro A5 c5 w5 ho5 hb5 hs5 hg5)) | fail)
          go_wp2_with fail
          refine ⟨⟨k + 1, M + M4, A5, c5, by omega, by go_num, rfl, by rw [HN.out.1]; exact ho5, by rw [HN.out.2, hok.out, hfv]; rfl, hb5⟩, by simp [intOf]; omega⟩
      · have hkn : k = nv := by omega
        subst hkn
        go_wp2
        go_ret2
        have hz : (List.zip fs (vsOf ms)).length = k := by rw [List.length_zip]; unfold vsOf; rw [List.length_map, HL.out, HLV.out, Nat.min_self]
        have hok' := hok.out
        have hown' := hown.out
        unfold upOk at hok'
        unfold upB at hown'
        rw [List.take_of_length_le (by omega)] at hok' hown'
        refine ⟨.inl ⟨?_, _, _, _, rfl, hown'⟩, hbw.out⟩
        unfold okAll
        rw [hok', Bool.and_true, decide_eq_true_iff]
        unfold vsOf
        rw [List.length_map, HL.out, HLV.out]
  · have hne : ((nv : Int) != (n : Int)) = true := by rw [bne_iff_ne]; omega
    go_enter Tryz.func59, Tryz.ntmps59
    go_wp2_with (first | (go_at_call 103; (with_reducible refine hW.out.mono ?_); rintro e w1 ⟨rfl, hb1⟩) | (go_at_call 39; refine (wrap_err (.no 1) _ _ _).mono ?_; rintro e w4 ⟨v4, rfl, he4, rfl⟩) | fail)
    go_ret2
    refine ⟨.inr ⟨?_, _, _, rfl, he4⟩, hb1⟩
    unfold okAll
    rw [Bool.and_eq_false_iff]
    refine .inl (decide_eq_false ?_)
    unfold vsOf
    rw [List.length_map, HL.out, HLV.out]
    exact hnn
end Go.Proofs.YtkdlofgfkfhofaaGreatDoor
