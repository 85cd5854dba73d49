import Derived.Test.YtkdlofgfkfhofaaGreatDoorP23
import Derived.Test.YtkdlofgfkfhofaaGreatDoorP03
import Derived.Test.YtkdlofgfkfhofaaGreatDoorP42
import Derived.Deep.Slices
/-
  Errors' numbers: a slice of the call's own; stavebook.Same of two that read alike.
-/
namespace Go.Proofs.YtkdlofgfkfhofaaGreatDoor
open Go.RowKit Go.Maps

def RdN (w : World) (A : Option Addr) (n c : Nat) (l : List Int) : Prop := Rd w w.heap.size A n c (l.map (Value.int .i64))
theorem RdN.ext {w w' : World} {A : Option Addr} {n c : Nat} {l : List Int} (h : RdN w A n c l) (hb : Below w.heap.size w w') : RdN w' A n c l := Rd.ext h hb
def OwnN (w : World) (B : Nat) (v : Value) (l : List Int) : Prop := w.ownsRow B 40 1 v l.length (l.map (Value.int .i64))
theorem OwnN.nil (w : World) (B : Nat) : OwnN w B (.slice none 0 0) [] := World.ownsRow_nil w B _ _
theorem OwnN.ext {w w' : World} {B : Nat} {v : Value} {l : List Int} (h : OwnN w B v l) (hb : Below w.heap.size w w') : OwnN w' B v l := own_turned (P := fun _ => False) h (Turned.of_below hb) (fun _ _ => id)
theorem OwnN.turned {w w' : World} {B : Nat} {v : Value} {l : List Int} {P : Nat → Prop} (h : OwnN w B v l) (ht : Turned P w w') (hp : ∀ g, v.ownBlock = some g → ¬ P g) : OwnN w' B v l := own_turned h ht hp
theorem OwnN.open_ {w : World} {B : Nat} {v : Value} {l : List Int} (h : OwnN w B v l) : ∃ A c, v = .slice A l.length c ∧ RdN w A l.length c l := by
  rcases h.2 with ⟨h1, h2⟩ | ⟨g, cap, cur, h1, hB, hg, hnc, hcm, hsz, htk⟩
  · have hl : l = [] := List.length_eq_zero_iff.1 h2
    subst hl
    exact ⟨none, 0, h1, Rd.nil _ _⟩
  · refine ⟨_, cap, h1, ?_⟩
    unfold RdN
    refine ⟨by rw [List.length_map], hnc, by unfold maxLen at hcm; exact hcm, fun k u hu => ⟨⟨g, 0, none⟩, rfl, (Array.getElem?_eq_some_iff.1 hg).1, ?_⟩⟩
    exact World.ownsRow.cells h (by rw [h1]; rfl) k u hu
theorem info_en : (Tryz.prog.info? 40).map (fun i => (i.zero, i.size, i.bytes)) = some (some (.int .i64 0), 1, 8) := by kernel_rfl
theorem one_en (z : Int) : ∀ u ∈ [Value.int .i64 z], u.oneCell' = true := by
  intro u hu
  rw [List.mem_singleton.1 hu]
  rfl
theorem cell_en (w : World) (t : TypeId) (x : Value) : ∀ j u, [x][j]? = some u → (w.alloc (.cells #[x] t)).cell? ((⟨w.heap.size, 0, none⟩ : Addr).add j) = some u := fun j u hu => by
  cases j with
  | succ j => simp at hu
  | zero =>
    simp at hu
    subst hu
    rw [show (⟨w.heap.size, 0, none⟩ : Addr).add 0 = ⟨w.heap.size, 0, none⟩ by simp [Addr.add]]
    exact (Bk.made w t #[x]).cell 0
theorem OwnN.of {w : World} {B n : Nat} {v : Value} {l : List Int} {xs : List Value} (h : w.ownsRow B 40 1 v n xs) (hx : xs = l.map (Value.int .i64)) (hn : l.length = n) : OwnN w B v l := by
  unfold OwnN
  rw [hn, ← hx]
  exact h
set_option maxRecDepth 100000 in
set_option maxHeartbeats 1000000 in
theorem sameN_any (A : Option Addr) (n c : Nat) (l : List Int) (A' : Option Addr) (c' : Nat) (w : World) (h : RdN w A n c l) (h' : RdN w A' n c' l) :
    Calls Tryz.prog 16 #[.slice A n c, .slice A' n c'] w fun e w' => e = .returned (.bool true) ∧ Below w.heap.size w w' := by
  have hn : n ≤ 9223372036854775807 := Nat.le_trans (Rd.cap h) (Rd.big h)
  have hl := Rd.len h
  rw [List.length_map] at hl
  have HL := Lib.hid hl
  have H1 := Lib.hid h
  have H2 := Lib.hid h'
  clear hl h h'
  have t0 : ((n : Int) != (n : Int)) = false := by simp
  go_enter Tryz.func16, Tryz.ntmps16
  go_wp2_with fail
  go_loopw [5] (fun i wr => ∃ k : Nat, k ≤ n ∧ i = .int .i64 k ∧ Below w.heap.size w wr) (fun i _ => n - (intOf i).toNat)
  case atStart => exact ⟨0, Nat.zero_le _, rfl, Below.refl _ _⟩
  case round =>
    obtain ⟨k, hk, rfl, hB⟩ := hrel
    have HB := Lib.hid hB
    clear hB
    by_cases hlt : k < n
    · obtain ⟨z, hz⟩ : ∃ z, l[k]? = some z := ⟨l[k]'(by have := HL.out; omega), List.getElem?_eq_getElem _⟩
      obtain ⟨ad, rfl, hx, hc⟩ := Rd.cell (H1.out.ext HB.out) k (.int .i64 z) (by rw [List.getElem?_map, hz]; rfl)
      obtain ⟨ad', rfl, hx', hc'⟩ := Rd.cell (H2.out.ext HB.out) k (.int .i64 z) (by rw [List.getElem?_map, hz]; rfl)
      have hi : (k : Int) < n := by omega
      have hi0 : (0 : Int) ≤ (k : Int) := by omega
      clear hz hx hx'
      go_wp2
      go_quiet (fail)
      go_wp2
      have HB2 := Lib.hid (HB.out.trans (below_le HB.out.size (⟨rfl, rfl, rfl, Nat.le_refl _, fun _ _ => rfl⟩ : Below wr.heap.size wr (wr.drewN nq))))
      exact ⟨⟨k + 1, by omega, by go_num, HB2.out⟩, by simp [intOf]; omega⟩
    · have hkn : k = n := by omega
      subst hkn
      go_wp2
      go_ret
      exact ⟨rfl, HB.out⟩
end Go.Proofs.YtkdlofgfkfhofaaGreatDoor

/-
  stavelaw25: ServerEach, the plain law; appends of two slices of the call's own.
-/
namespace Go.Proofs.YtkdlofgfkfhofaaGreatDoor
open Go.RowKit Go.Maps

def qryA (j : Nat) : Ask := ⟨j, 8, ⟨#[113]⟩, nul, 0, 0, 0, 0, 0, j, noB⟩
theorem qry_all : ((List.range 12).all fun j => rightA (qryA j)) = true := by decide +kernel
theorem qry_right {j : Nat} (h : j < 12) : rightA (qryA j) = true := List.all_eq_true.1 qry_all j (List.mem_range.2 h)
def errF (X : List UInt8) : Int := (evR (.frame X)).2
theorem qry_err {j : Nat} (h : j < 12) : errF (putA (qryA j)) = 10 := by
  unfold errF
  rw [ev_ask (qry_right h)]
  rfl
theorem odd_get (x : List UInt8) : ∃ c, getA (9 :: x) = .error (c, if x.length + 1 < 6 then 3 else 14) := by
  match x with
  | [] => exact ⟨_, rfl⟩
  | [_] => exact ⟨_, rfl⟩
  | [_, _] => exact ⟨_, rfl⟩
  | [_, _, _] => exact ⟨_, rfl⟩
  | [_, _, _, _] => exact ⟨_, rfl⟩
  | k :: c0 :: c1 :: c2 :: c3 :: r =>
    refine ⟨corr4 c0 c1 c2 c3, ?_⟩
    rw [if_neg (by simp only [List.length_cons]; omega)]
    show getA6 9 k c0 c1 c2 c3 r = _
    unfold getA6
    rw [if_neg (by decide)]
theorem odd_err (x : List UInt8) : errF (9 :: x) = if x.length + 1 < 6 then 3 else 14 := by
  obtain ⟨c, h⟩ := odd_get x
  show (match getA (9 :: x) with | .error k => k | .ok a => (a.corr, servE a.kind)).2 = _
  rw [h]
theorem odd_rd (x : List UInt8) : Rd1 (.frame (9 :: x)) := by
  intro X a h1 h2
  injection h1 with h1
  subst h1
  obtain ⟨c, h⟩ := odd_get x
  rw [h] at h2
  cases h2
/-- frames that may be sent -/
def EachI (Xs : List (List UInt8)) : Prop := ∀ X ∈ Xs, X.length ≤ 606 ∧ Rd1 (.frame X)
theorem EachI.snoc {Xs : List (List UInt8)} (h : EachI Xs) {X : List UInt8} (h1 : X.length ≤ 606) (h2 : Rd1 (.frame X)) : EachI (Xs ++ [X]) := fun Y hY => by
  rcases List.mem_append.1 hY with hY | hY
  · exact h Y hY
  · rw [List.mem_singleton.1 hY]
    exact ⟨h1, h2⟩
theorem EachI.len {Xs : List (List UInt8)} (h : EachI Xs) : (Xs.flatMap frU).length ≤ 608 * Xs.length := by
  induction Xs with
  | nil => exact Nat.le_refl _
  | cons X Xs ih =>
    have h1 := (h X List.mem_cons_self).1
    have h2 := ih (fun Y hY => h Y (List.mem_cons_of_mem _ hY))
    rw [List.flatMap_cons, List.length_append, List.length_cons]
    have h3 : (frU X).length = 2 + X.length := by unfold frU; rw [List.length_append]; rfl
    omega
theorem EachI.all {Xs : List (List UInt8)} (h : EachI Xs) {n : Nat} (hn : Xs.length ≤ n) : allM n (Xs.flatMap frU) 0 = Xs.map .frame := by
  have h1 := all_frs Xs [] (n - Xs.length) (fun X hX => by have := (h X hX).1; omega)
  rw [List.append_nil, show n - Xs.length + Xs.length = n by omega, all_nil, List.append_nil] at h1
  exact h1
theorem EachI.rd {Xs : List (List UInt8)} (h : EachI Xs) : ∀ e ∈ Xs.map Ev.frame, Rd1 e := fun e he => by
  obtain ⟨X, hX, rfl⟩ := List.mem_map.1 he
  exact (h X hX).2
theorem flat_snoc (Xs : List (List UInt8)) (X : List UInt8) : (Xs ++ [X]).flatMap frU = Xs.flatMap frU ++ frU X := by simp
theorem frU_small {X : List UInt8} (h : X.length < 256) : frU X = [UInt8.ofNat X.length, 0] ++ X := by
  unfold frU
  rw [Nat.div_eq_of_lt h]
  rfl
/-- two rows of unlike types are two -/
theorem own_apart {w : World} {B B' : Nat} {v v' : Value} {l : List UInt8} {l' : List Int} (h : OwnB w B v l) (h' : OwnN w B' v' l') : v'.ownBlock = none ∨ v'.ownBlock ≠ v.ownBlock := by
  rcases h'.2 with ⟨h1, _⟩ | ⟨g, cap, cur, h1, _, hg, _⟩
  · rw [h1]
    exact .inl rfl
  · refine .inr fun e => ?_
    rcases h.2 with ⟨h2, _⟩ | ⟨g2, cap2, cur2, h2, _, hg2, _⟩
    · rw [h1, h2] at e
      cases e
    · rw [h1, h2] at e
      have e : some g = some g2 := e
      injection e with e
      subst e
      rw [hg] at hg2
      injection hg2 with hg2
      injection hg2 with _ hg2 _
      exact absurd hg2 (by decide)
theorem OwnN.past {w w' : World} {B B' : Nat} {v v' : Value} {l : List UInt8} {l' : List Int} (h' : OwnN w B' v' l') (h : OwnB w B v l) (hg : w.grownBy w' v.ownBlock) : OwnN w' B' v' l' :=
  h'.turned (P := fun g => v.ownBlock = some g) (Turned.of_grown hg fun _ e => e) fun g e q => by
    rcases own_apart h h' with h2 | h2
    · rw [h2] at e
      cases e
    · exact h2 (e.trans q.symm)
theorem RdB.past_own {w w' : World} {B2 : Nat} {v : Value} {bs : List UInt8} {A : Option Addr} {n c : Nat} (hr : RdB w A n c bs) (hA : ∀ ad, A = some ad → B2 ≤ ad.block) (hv : ∀ g, v.ownBlock = some g → g < B2) (hg : w.grownBy w' v.ownBlock) : RdB w' A n c bs :=
  RdB.turned hr (Turned.of_grown (P := fun g => v.ownBlock = some g) hg fun _ e => e) fun ad e q => by
    have h1 := hA ad e
    have h2 := hv _ q
    omega
theorem OwnB.pastN {w w' : World} {B B' n : Nat} {v v' : Value} {l : List UInt8} {xs : List Value} (h : OwnB w B v l) (h' : w.ownsRow B' 40 1 v' n xs) (hg : w.grownBy w' v'.ownBlock) : OwnB w' B v l := by
  refine own_turned (P := fun g => v'.ownBlock = some g) h (Turned.of_grown hg fun _ e => e) fun g e q => ?_
  rcases h'.2 with ⟨h1, _⟩ | ⟨g1, cap, cur, h1, _, hg1, _⟩
  · rw [h1] at q
    cases q
  · rcases h.2 with ⟨h2, _⟩ | ⟨g2, cap2, cur2, h2, _, hg2, _⟩
    · rw [h2] at e
      cases e
    · rw [h1] at q
      rw [h2] at e
      have q : some g1 = some g := q
      have e : some g2 = some g := e
      injection q with q
      injection e with e
      subst q e
      rw [hg1] at hg2
      injection hg2 with hg2
      injection hg2 with _ hg2 _
      exact absurd hg2 (by decide)
theorem wpList_append_bytesG {ops : Array Oper} {rest : List Oper} {o : Oper} {a : Act} {Q : Exit → Act → World → Prop} {w : World} (hgd : o.guard = none) (s x : Operand)
    (ho : o.op = .call { callee := .builtin .append, args := #[s, x], argTypes := #[26, 26] }) (B : Nat) (w0 : World) (v : Value) (l : List UInt8) (hs : a.eval s = v) (hown : OwnB w B v l)
    (A : Option Addr) (m c : Nat) (new : List UInt8) (hx : a.eval x = .slice A m c) (hr : RdB w A m c new) (hsmall : l.length + m ≤ 140737488355328) (hb : Below B w0 w) (hB : B ≤ w.heap.size) (N : Nat) (hN : N = l.length + m)
    (h : ∀ A' c' w', Hid (OwnB w' B (.slice A' N c') (l ++ new)) → Below B w0 w' → Hid (w.grownBy w' v.ownBlock) → wpList Tryz.prog ops Q rest (a.put o.dst (.slice A' N c')) w') : wpList Tryz.prog ops Q (o :: rest) a w := by
  refine wpList_plain hgd fun K hK => ?_
  obtain ⟨v', w', hrun, h2, h3⟩ := run_append_bytes w B o.type v l hown A m c new hr hsmall hB
  obtain ⟨A', c', rfl, _⟩ := h2.reads
  have e : (l ++ new).length = N := by rw [List.length_append, hr.len, hN]
  rw [e] at hrun h2
  unfold Oper.wp execOp
  simp only [ho, resolve, invoke, builtin, Sem.run_bind, Sem.run_pure, Result.andThen_ok, List.map_toArray, List.map_cons, List.map_nil, hs, hx, hrun]
  exact hK _ _ (h A' c' w' h2 (hb.grown h3 hB hown.own_lt) h3)
theorem one_row (r : RpR) : r.cells.toArray.all (·.oneCell') = true :=
  all_oneCell_toArray fun v hv => by
    unfold RpR.cells at hv
    simp only [List.mem_cons, List.mem_nil_iff, or_false] at hv
    rcases hv with rfl | rfl | rfl | rfl | rfl | rfl <;> rfl
theorem stRp_row (w : World) (g : Nat) (hg : g = w.heap.size) (old : Array Value) (ho : old.size = 6) (r : RpR) : (stRp (.pointer (some ⟨g, 0, none⟩)) (.agg r.cells.toArray)).run Tryz.prog (w.alloc (.cells old 43)) = .ok () (w.alloc (.cells r.cells.toArray 43)) := by
  subst hg
  exact run_storeAt_new w 43 _ _ size_rp (by rw [ho]; rfl) (one_row r)
theorem ldRp_row {w : World} {g o : Nat} {r : RpR} (h : ∀ j v, r.cells[j]? = some v → w.cell? ⟨g, o + j, none⟩ = some v) : (ldRp (.pointer (some ⟨g, o, none⟩))).run Tryz.prog w = .ok (.agg r.cells.toArray) w :=
  run_loadAt_mid w g o 43 r.cells _ h Tryz.underlying43 rfl size_rp
theorem RpL.errs {Ls : List RpR} {Xs : List (List UInt8)} (h : RpL Ls (Xs.map .frame)) : Ls.map RpR.er = Xs.map errF := by
  have h1 := congrArg (List.map Prod.snd) h
  rw [List.map_map, List.map_map, List.map_map] at h1
  exact h1
end Go.Proofs.YtkdlofgfkfhofaaGreatDoor

/-
  A law's slice of moves: their numbers N.
-/
namespace Go.Proofs.YtkdlofgfkfhofaaGreatDoor
open Go.ChangeShapes Go.WideShapes Go.ChangeAt Go.RowKit Go.Maps

theorem cells_move : Tryz.prog.cellsOf 63 = 11 := by kernel_rfl
/-- the k-th move's number N -/
structure RdMv (w : World) (A : Option Addr) (n c : Nat) (l : Nat → Int) : Prop where
  cap : n ≤ c
  big : c ≤ 9223372036854775807
  ok : ∀ k, k < n → -9223372036854775808 ≤ l k ∧ l k ≤ 9223372036854775807
  cell : ∀ k, k < n → ∃ ad : Addr, A = some ad ∧ ad.block < w.heap.size ∧ w.cell? (ad.add (k * 11 + 2)) = some (.int .i64 (l k))
theorem RdMv.ext {w w' : World} {A : Option Addr} {n c : Nat} {l : Nat → Int} (h : RdMv w A n c l) {B : Nat} (hb : Below B w w') (hB : w.heap.size ≤ B) : RdMv w' A n c l :=
  ⟨h.cap, h.big, h.ok, fun k hk => by
    obtain ⟨ad, h1, h2, h3⟩ := h.cell k hk
    exact ⟨ad, h1, Nat.lt_of_lt_of_le h2 hb.size, (hb.cell (by rw [add_block]; omega)).trans h3⟩⟩
set_option maxRecDepth 100000 in
theorem move_of {H : Type} {enc : TypeId × Value → H} {W : World} {fuel : Nat} {cs : List Value} {x : DataW H × List MemPlace} (hf : DataW.trod enc Tryz.prog W 0 (fun _ => true) true fuel 63 cs = some x) : ∃ z : Int, cs[2]? = some (.int .i64 z) ∧ (-9223372036854775808 ≤ z ∧ z ≤ 9223372036854775807) := by
  obtain ⟨xs, n, _, _, _, hxs, hfi⟩ := DataW.trod_struct Tryz.underlying63 hf
  have hx5 : xs.length = 5 := hxs
  have num : ∀ (i : Nat) (f : Field), (match Tryz.prog.underlying 63 with | some (.struct fs) => fs | _ => #[])[i]? = some f → f.type = 3 → f.offset = i → i < 5 → ∃ z : Int, cs[i]? = some (.int .i64 z) ∧ (-9223372036854775808 ≤ z ∧ z ≤ 9223372036854775807) := by
    intro i f hf1 ht ho hi
    have h1 := hfi i f (by rw [Tryz.underlying63] at hf1; exact hf1)
    rw [ht, ho, cells_i, List.getElem?_eq_getElem (by omega)] at h1
    obtain ⟨z, hz, _, hw⟩ := DataW.trod_int Tryz.underlying3 h1
    exact ⟨z, one_of hz, wf_i64 hw⟩
  exact num 2 _ (by rw [Tryz.underlying63]; rfl) rfl rfl (by omega)
set_option maxRecDepth 100000 in
theorem Came.moves {H : Type} {enc : TypeId × Value → H} {W : World} {base : Nat} {v : Value} {d : DataW H} {p : List MemPlace} (h : Came enc W base 57 v d p) : ∃ A n c l, v = .slice A n c ∧ RdMv W A n c l := by
  obtain ⟨A, n, c, rfl⟩ := okWide_slice Tryz.underlying57 h.1
  obtain ⟨fuel, hf⟩ := h.2
  rcases Go.Deep.open_slice Tryz.underlying57 hf with ⟨hcs, _⟩ | ⟨a, len, cap, m, n', D, Pl, hcs, _, hl, hm, hmm, _, hi⟩
  · simp [Value.cells] at hcs
    obtain ⟨rfl, rfl, rfl⟩ := hcs
    exact ⟨none, 0, 0, fun _ => 0, rfl, Nat.le_refl _, by omega, fun k h => by omega, fun k h => by omega⟩
  · simp [Value.cells] at hcs
    obtain ⟨rfl, rfl, rfl⟩ := hcs
    rw [cells_move] at hi
    have hget : ∀ i, ∃ z : Int, i < n → (-9223372036854775808 ≤ z ∧ z ≤ 9223372036854775807) ∧ a.block < W.heap.size ∧ W.cell? (a.add (i * 11 + 2)) = some (.int .i64 z) := by
      intro i
      by_cases hin : i < n
      · obtain ⟨cs', hc, ht⟩ := hi i (by rw [hmm]; simp; omega)
        obtain ⟨_, _, hat⟩ := World.cells?_some hc
        obtain ⟨z, hz, hq⟩ := move_of ht
        have h0 := hat 2 (by omega)
        rw [hz, add_add'] at h0
        refine ⟨z, fun _ => ⟨hq, ?_, h0⟩⟩
        have := cell_lt h0
        rwa [add_block] at this
      · exact ⟨0, fun h => absurd h hin⟩
    obtain ⟨f, hf'⟩ := Classical.axiomOfChoice hget
    exact ⟨some a, n, c, f, rfl, hl, by unfold maxLen at hm; exact hm, fun k hk => (hf' k hk).1, fun k hk => ⟨a, rfl, (hf' k hk).2.1, (hf' k hk).2.2⟩⟩
end Go.Proofs.YtkdlofgfkfhofaaGreatDoor

/-
  stavelaw25: ServerEach.
-/
namespace Go.Proofs.YtkdlofgfkfhofaaGreatDoor
open Go.RowKit Go.Maps

abbrev cf7c : CfgM := ⟨(7 : Nat), (1 : Nat), (2 : Nat), (4 : Nat), (1 : Nat)⟩
attribute [local go_sem ↓] sliced_past ldRp_eq stRp_eq
attribute [local go_sem] pastA_zero
set_option maxRecDepth 100000 in
set_option maxHeartbeats 8000000 in
theorem serverEach_any (A : Option Addr) (n c : Nat) (l : Nat → Int) (Ao : Option Addr) (no co : Nat) (odd : List (List UInt8)) {w : World} (hr : RdMv w A n c l) (ho : RdL w Ao no co odd) (hL : ErrLaid w) :
    Calls Tryz.prog 6 #[.slice A n c, .slice Ao no co] w fun e w' => e = .returned (.bool true) ∧ Below w.heap.size w w' := by
  have HNw : Hid (Calls Tryz.prog 8 #[.agg #[.int .i64 7, .int .i64 1, .int .i64 2, .int .i64 4, .int .i64 1]] w fun e w' => ∃ sv b r t g s tb gr me, e = .returned (.pointer (some ⟨sv, 0, none⟩)) ∧ SvAt w' sv b r t g s tb gr me (.slice none 0 0) 0 cf7c zCs ∧ SvL sv b t g s tb ∧ w.heap.size ≤ b ∧ (∃ o W, StoAt w' o r 2 6 W ∧ o b = none ∧ o sv = none) ∧ Below w.heap.size w w') := playNew_any 7 1 2 4 1 6 rfl (by omega) (by omega) (by omega) (by omega) (by omega) (at_one (by omega) (by omega) (by omega) (by omega) (by omega) (by omega)) (by omega) hL
  have HFr : Hid (∀ (q : Nat) (v : World), Calls Tryz.prog 9 #[.agg #[.int .i64 (q : Int), .int .i64 8, .string ⟨#[113]⟩, .string ⟨#[]⟩, .int .i64 0, .int .i64 0, .int .i64 0, .int .i64 0, .int .i64 0, .int .i64 (q : Int), .int .i64 0, .int .i64 0, .int .i64 0, .slice none 0 0]] v fun er w' => ∃ A' M c', er = .returned (.slice A' M c') ∧ OwnB w' v.heap.size (.slice A' M c') (frA (qryA q)) ∧ Below v.heap.size v w') := fun q v => (playFrame_any (qryA q) none 0 0 v (RdT.nil v)).mono fun er w' h => by
    obtain ⟨A', c', h1, h2, h3⟩ := h
    exact ⟨A', _, c', h1, h2, h3⟩
  obtain ⟨ii, hi0, hz0, hs0, hy0⟩ := info_parts info_en
  have HI := Lib.hid hi0
  have HZ := Lib.hid hz0
  have HSz := Lib.hid hs0
  have HY := Lib.hid hy0
  clear hi0 hz0 hs0 hy0
  have hcap := hr.cap
  have hbig := hr.big
  obtain ⟨hol, hoc, hob, hog⟩ := ho
  have HOl := Lib.hid hol
  have HOg := Lib.hid hog
  have HLd := Lib.hid hL
  have HR := Lib.hid hr
  clear hL hr hol hog
  go_enter Tryz.func6, Tryz.ntmps6
  go_wp2_with fail
  with_reducible refine HNw.out.mono ?_
  rintro er w1 ⟨sv, b, r, t, g, s, tb, gr, me, rfl, hS1, hL1, hb1, _, hbe1⟩
  have HB1 := Lib.hid hbe1
  have HL1 := Lib.hid hL1
  have HF1 := Lib.hid (feed_nil (N := 8000) hS1 3)
  have HSv1 : Hid (sv < w1.heap.size) := hS1.bk.lt
  clear hbe1 hS1 hL1 HNw
  go_wp2_with fail
  go_loopw [6, 7, 8] (fun s6 s7 s8 wr => ∃ (q Lb : Nat) (A1 : Option Addr) (c1 : Nat) (A2 : Option Addr) (c2 : Nat) (Xs : List (List UInt8)), q ≤ 12 ∧ q ≤ n ∧ Xs.length = q ∧ s6 = .slice A1 Lb c1 ∧ s7 = .slice A2 q c2 ∧ s8 = .int .i64 q ∧ Hid (OwnB wr w1.heap.size (.slice A1 Lb c1) (Xs.flatMap frU)) ∧ Hid (OwnN wr w1.heap.size (.slice A2 q c2) (Xs.map errF)) ∧ Hid (EachI Xs) ∧ Hid (Below w1.heap.size w1 wr)) (fun _ _ i _ => 12 - (intOf i).toNat)
  case atStart => exact ⟨0, 0, none, 0, none, 0, [], by omega, by omega, rfl, rfl, rfl, rfl, OwnB.nil _ _, OwnN.nil _ _, (fun _ h => absurd h List.not_mem_nil), Below.refl _ _⟩
  case round =>
    obtain ⟨q, Lb, A1, c1, A2, c2, Xs, hq12, hqn, hXq, rfl, rfl, rfl, hO, hN, hE, hB⟩ := hrel
    have HXq := Lib.hid hXq
    clear hXq
    by_cases hlt : q < n ∧ q < 12
    · have hi1 : (q : Int) < n := by omega
      have hi2 : (q : Int) < 12 := by omega
      obtain ⟨ad, rfl, hadb, hce⟩ := (HR.out.ext (HB1.out.trans (below_le HB1.out.size hB.out)) (Nat.le_refl _)).cell q hlt.1
      have hce : wr.cell? ⟨(ad.add (q * 11)).block, (ad.add (q * 11)).off + 2, none⟩ = some (.int .i64 (l q)) := by
        rw [← add_add'] at hce
        exact hce
      by_cases hodd : q < no ∧ (l q).tmod 2 = 0
      · have hi3 : (q : Int) < no := by omega
        have hi4 := hodd.2
        go_upto_region 10 with fail
        obtain ⟨x, hx⟩ : ∃ x, odd[q]? = some x := ⟨odd[q]'(by have := HOl.out; omega), List.getElem?_eq_getElem _⟩
        obtain ⟨ao, Ax, nx, cx, rfl, haob, hcx, hrx⟩ := HOg.out q x hx
        have hbw := HB1.out.trans (below_le HB1.out.size hB.out)
        have FS : Hid (∀ v, Below wr.heap.size wr v → v.cell? (ao.add q) = some (.slice Ax nx cx)) := fun v hv => (hv.cell (by rw [add_block]; exact Nat.lt_of_lt_of_le haob hbw.size)).trans ((hbw.cell (by rw [add_block]; exact haob)).trans hcx)
        have HRx := Lib.hid (hrx.ext hbw)
        obtain ⟨mx, hmx, hmn, hm40⟩ := min_int nx 40 (by omega)
        have hxc := hrx.cap
        have hxb := hrx.big
        have hx1 : (mx : Int) ≤ (nx : Int) := by omega
        have hx2 : (nx : Int) ≤ (cx : Int) := by omega
        have hx3 : (mx : Int) ≤ (cx : Int) := by omega
        have B0 : Hid (Below wr.heap.size wr wr.drew) := below_drew1 (Below.refl _ _)
        clear hce hcx hrx hbw hx haob hadb
        have hn9 := below_new wr (.cells #[.int .u8 9] 5)
        have HO9 : Hid (OwnB (wr.alloc (.cells #[.int .u8 9] 5)) wr.heap.size (.slice (some ⟨wr.heap.size, 0, none⟩) 1 1) [9]) := ((show Bb (wr.alloc (.cells (bvs [9]).toArray 5)) wr.heap.size 5 [9] from Bk.made wr 5 _).owns (n := 1) rfl (by omega)).own (Nat.le_refl _) 1 rfl
        have HB9 := Lib.hid (below_drew1 hn9)
        have HR9 := Lib.hid ((HRx.out.upto mx hmn).ext HB9.out)
        clear hn9
        go_cut [9] from 40 to 52 (fun s9 wx => ∃ (A5 : Option Addr) (c5 : Nat), s9 = .slice A5 (1 + mx) c5 ∧ Hid (OwnB wx wr.heap.size (.slice A5 (1 + mx) c5) ([9] ++ x.take mx)) ∧ Hid (Below wr.heap.size wr wx))
        case first =>
          go_region_held3 (fun v => v.cell? (ao.add q) = some (.slice Ax nx cx)) (first | exact FS.out _ B0.out | exact FS.out _ HB9.out | exact FS.out _ hb5 | fail) (first | (((refine step_append_bytes (by rfl) (.tmp 40) (.tmp 51) (by rfl) wr.heap.size wr _ [9] (by rfl) HO9.out Ax mx cx (x.take mx) (by rfl) HR9.out (by simp; omega) HB9.out HB9.out.size (1 + mx) (by simp) ?_); intro A5 c5 w5 ho5 hb5 hs5 hg5)) | fail)
          all_goals
            go_wp2_with fail
            go_meet
            exact ⟨A5, c5, rfl, ho5, hb5⟩
        case rest =>
          obtain ⟨A5, c5, rfl, hO5, hB5⟩ := hcut
          obtain ⟨X, hX⟩ : ∃ X, 9 :: x.take mx = X := ⟨_, rfl⟩
          obtain ⟨M, hM⟩ : ∃ M, 1 + mx = M := ⟨_, rfl⟩
          have hO5X := hO5.out
          rw [show [9] ++ x.take mx = X from hX, hM] at hO5X
          rw [hM]
          have hXl : X.length = M := hO5X.rd.len
          have hM41 : M ≤ 41 := by omega
          have hXe : errF X = if M < 6 then 3 else 14 := by
            rw [← hX, odd_err, ← hXl, ← hX, List.length_cons]
          have hXr : Rd1 (.frame X) := by rw [← hX]; exact odd_rd _
          have hXf : frU X = [UInt8.ofNat M, 0] ++ X := by rw [frU_small (by omega), hXl]
          have HXe := Lib.hid hXe
          have HE2 := Lib.hid (hE.out.snoc (by omega) hXr)
          have HXf := Lib.hid hXf
          have hb1l := World.ownsRow.lt hO.out
          have HOc : Hid (OwnB wc w1.heap.size (.slice A1 Lb c1) (Xs.flatMap frU)) := own_turned (P := fun _ => False) hO.out (Turned.of_below hB5.out) (fun _ _ => id)
          have HNc := Lib.hid (hN.out.ext hB5.out)
          have HBc := Lib.hid (hB.out.trans (below_le hB.out.size hB5.out))
          have hplX := own_place hO5X
          have hnh := below_new wc (.cells #[.int .u8 (M : Int), .int .u8 0] 5)
          have HOh : Hid (OwnB (wc.alloc (.cells #[.int .u8 (M : Int), .int .u8 0] 5)) w1.heap.size (.slice A1 Lb c1) (Xs.flatMap frU)) := own_turned (P := fun _ => False) HOc.out (Turned.of_below hnh) (fun _ _ => id)
          have HNh := Lib.hid (HNc.out.ext hnh)
          have HBh := Lib.hid (HBc.out.trans (below_le HBc.out.size hnh))
          have HXh := Lib.hid (hO5X.rd.ext hnh)
          have HRh : Hid (RdB (wc.alloc (.cells #[.int .u8 (M : Int), .int .u8 0] 5)) (some ⟨wc.heap.size, 0, none⟩) 2 2 [UInt8.ofNat M, 0]) := by
            have e : (#[.int .u8 (M : Int), .int .u8 0] : Array Value) = (bvs [UInt8.ofNat M, 0]).toArray := by
              show _ = (#[.int .u8 (w8 (UInt8.ofNat M)), .int .u8 0] : Array Value)
              rw [w8_ofNat, show (M : Int) % 256 = M by omega]
            rw [e]
            exact ((show Bb (wc.alloc (.cells (bvs [UInt8.ofNat M, 0]).toArray 5)) wc.heap.size 5 [UInt8.ofNat M, 0] from Bk.made wc 5 _).owns (n := 2) rfl (by omega)).own (Nat.le_refl _) 2 rfl |>.rd
          have hLb := HOc.out.rd.len
          have hLb2 := hE.out.len
          rw [HXq.out] at hLb2
          have hLb3 : Lb ≤ 8000 := by omega
          have HLb := Lib.hid hLb
          clear hX hM hO5 hO5X hXe hXr hXf hO hN hE hB hB5 hnh hLb hLb2 HRx HO9 HB9 HR9 FS B0 hx1 hx2 hx3 hmx hmn hm40 hxc hxb hce
          go_upto_region 12 with (first | (at_builtin; go_loud (refine wpList_append_bytesG rfl (.tmp 53) (.tmp 57) rfl w1.heap.size w1 _ _ rfl HOh.out _ 2 2 _ rfl HRh.out (by rw [HLb.out]; omega) HBh.out HBh.out.size (Lb + 2) (by rw [HLb.out]) ?_); intro A6 c6 w6 ho6 hb6 hg6; have HX6 := Lib.hid (HXh.out.past_own hplX (fun g e => (hb1l g e).2) hg6.out); have HN6 := Lib.hid (HNh.out.past HOh.out hg6.out)) | (at_builtin; go_loud (refine wpList_append_bytesG rfl (.tmp 58) (.tmp 59) rfl w1.heap.size w1 _ _ rfl ho6.out A5 M c5 _ rfl HX6.out (by rw [List.length_append, HLb.out]; simp; omega) hb6 hb6.size (Lb + 2 + M) (by rw [List.length_append, HLb.out]; rfl) ?_); intro A7 c7 w7 ho7 hb7 hg7; have HN7 := Lib.hid (HN6.out.past ho6.out hg7.out)) | fail)
          have HO8 : Hid (OwnB w7 w1.heap.size (.slice A7 (Lb + 2 + M) c7) ((Xs ++ [X]).flatMap frU)) := by
            show OwnB _ _ _ _
            rw [flat_snoc, HXf.out, ← List.append_assoc]
            exact ho7.out
          have HB8 := Lib.hid hb7
          clear ho6 hb6 hg6 HX6 HN6 ho7 hb7 hg7 HOh HNh HBh HXh HRh HOc HNc HBc hplX hb1l
          by_cases hM6 : M < 6
          · have hm6 : (M : Int) < 6 := by omega
            have hz := HXe.out
            rw [if_pos hM6] at hz
            have hn1 := below_new w7 (.cells #[.int .i64 3] 40)
            have HN8 : Hid ((w7.alloc (.cells #[.int .i64 3] 40)).ownsRow w1.heap.size 40 1 (.slice A2 q c2) q ((Xs.map errF).map (Value.int .i64))) := by
              have h := HN7.out.ext hn1
              unfold OwnN at h
              rw [List.length_map, HXq.out] at h
              exact h
            have HB9' := Lib.hid (HB8.out.trans (below_le HB8.out.size hn1))
            have HOn : Hid (OwnB (w7.alloc (.cells #[.int .i64 3] 40)) w1.heap.size (.slice A7 (Lb + 2 + M) c7) ((Xs ++ [X]).flatMap frU)) := own_turned (P := fun _ => False) HO8.out (Turned.of_below hn1) (fun _ _ => id)
            clear hn1 HN7
            go_wp2_with (first | (at_builtin; go_loud (refine wpList_append_gen rfl (.tmp 64) (.tmp 65) 59 rfl 40 ii _ 1 8 Tryz.underlying59 HI.out HZ.out HSz.out HY.out rfl (by omega) w1.heap.size w1 _ q ((Xs.map errF).map (Value.int .i64)) rfl HN8.out ⟨w7.heap.size, 0, none⟩ 1 1 [.int .i64 3] rfl rfl (cell_en _ _ _) (one_en _) (by unfold maxLen; omega) (by omega) HB9'.out HB9'.out.size ?_); intro A9 c9 w9 ho9 hg9 hob9 hb9 hs9) | fail)
            have HN9 : Hid (OwnN w9 w1.heap.size (.slice A9 (q + 1) c9) ((Xs ++ [X]).map errF)) := by
              refine OwnN.of ho9.out ?_ ?_
              · rw [List.map_append, List.map_append, List.map_cons, List.map_nil, hz]
                rfl
              · rw [List.length_map, List.length_append, HXq.out]
                rfl
            exact ⟨⟨q + 1, Lb + 2 + M, A7, c7, A9, c9, Xs ++ [X], by omega, by omega, by rw [List.length_append, HXq.out]; rfl, rfl, rfl, by go_num, HOn.out.pastN HN8.out hg9.out, HN9.out, HE2.out, hb9⟩, by simp [intOf]; omega⟩
          · have hm6 : ¬ (M : Int) < 6 := by omega
            have hz := HXe.out
            rw [if_neg hM6] at hz
            have hn1 := below_new w7 (.cells #[.int .i64 14] 40)
            have HN8 : Hid ((w7.alloc (.cells #[.int .i64 14] 40)).ownsRow w1.heap.size 40 1 (.slice A2 q c2) q ((Xs.map errF).map (Value.int .i64))) := by
              have h := HN7.out.ext hn1
              unfold OwnN at h
              rw [List.length_map, HXq.out] at h
              exact h
            have HB9' := Lib.hid (HB8.out.trans (below_le HB8.out.size hn1))
            have HOn : Hid (OwnB (w7.alloc (.cells #[.int .i64 14] 40)) w1.heap.size (.slice A7 (Lb + 2 + M) c7) ((Xs ++ [X]).flatMap frU)) := own_turned (P := fun _ => False) HO8.out (Turned.of_below hn1) (fun _ _ => id)
            clear hn1 HN7
            go_wp2_with (first | (at_builtin; go_loud (refine wpList_append_gen rfl (.tmp 67) (.tmp 68) 59 rfl 40 ii _ 1 8 Tryz.underlying59 HI.out HZ.out HSz.out HY.out rfl (by omega) w1.heap.size w1 _ q ((Xs.map errF).map (Value.int .i64)) rfl HN8.out ⟨w7.heap.size, 0, none⟩ 1 1 [.int .i64 14] rfl rfl (cell_en _ _ _) (one_en _) (by unfold maxLen; omega) (by omega) HB9'.out HB9'.out.size ?_); intro A9 c9 w9 ho9 hg9 hob9 hb9 hs9) | fail)
            have HN9 : Hid (OwnN w9 w1.heap.size (.slice A9 (q + 1) c9) ((Xs ++ [X]).map errF)) := by
              refine OwnN.of ho9.out ?_ ?_
              · rw [List.map_append, List.map_append, List.map_cons, List.map_nil, hz]
                rfl
              · rw [List.length_map, List.length_append, HXq.out]
                rfl
            exact ⟨⟨q + 1, Lb + 2 + M, A7, c7, A9, c9, Xs ++ [X], by omega, by omega, by rw [List.length_append, HXq.out]; rfl, rfl, rfl, by go_num, HOn.out.pastN HN8.out hg9.out, HN9.out, HE2.out, hb9⟩, by simp [intOf]; omega⟩
      · go_upto_region 9 with fail
        go_cut [39] from 27 to 39 (fun s39 wx => s39 = .bool false ∧ wr = wx)
        case first =>
          by_cases hno : q < no
          · have hi3 : (q : Int) < no := by omega
            have hi4 : ¬ (l q).tmod 2 = 0 := fun h => hodd ⟨hno, h⟩
            go_wp2_with fail
            go_meet
            exact ⟨congrArg Value.bool (beq_eq_false_iff_ne.2 hi4), rfl⟩
          · have hi3 : ¬ (q : Int) < no := by omega
            go_wp2_with fail
            go_meet
            exact ⟨rfl, rfl⟩
        case rest =>
          obtain ⟨rfl, rfl⟩ := hcut
          clear hce hadb
          go_wp2_with fail
          with_reducible refine (HFr.out q wr).mono ?_
          rintro er w3 ⟨A3, M3, c3, rfl, hO3, hb3⟩
          rw [frA_is] at hO3
          have hl3 := hO3.rd.len
          have hp3 := putA_len (qryA q)
          have hL3 : M3 ≤ 608 := by
            rw [← hl3]
            have : (frU (putA (qryA q))).length = 2 + (putA (qryA q)).length := by unfold frU; rw [List.length_append]; rfl
            omega
          have hz := qry_err hlt.2
          have HE2 := Lib.hid (hE.out.snoc hp3 (rd_ask (qry_right hlt.2) rfl))
          generalize putA (qryA q) = X at hO3 hz HE2
          have HOh : Hid (OwnB w3 w1.heap.size (.slice A1 Lb c1) (Xs.flatMap frU)) := own_turned (P := fun _ => False) hO.out (Turned.of_below hb3) (fun _ _ => id)
          have HNh := Lib.hid (hN.out.ext hb3)
          have HBh := Lib.hid (hB.out.trans (below_le hB.out.size hb3))
          have HXh := Lib.hid hO3.rd
          have hLb := HOh.out.rd.len
          have hLb2 := hE.out.len
          rw [HXq.out] at hLb2
          have hLb3 : Lb ≤ 8000 := by omega
          have HLb := Lib.hid hLb
          clear hO3 hb3 hl3 hp3 hO hN hE hB hLb hLb2
          go_upto_region 16 with (first | (at_builtin; go_loud (refine wpList_append_bytesG rfl (.tmp 70) (.tmp 74) rfl w1.heap.size w1 _ _ rfl HOh.out A3 M3 c3 _ rfl HXh.out (by rw [HLb.out]; omega) HBh.out HBh.out.size (Lb + M3) (by rw [HLb.out]) ?_); intro A7 c7 w7 ho7 hb7 hg7; have HN7 := Lib.hid (HNh.out.past HOh.out hg7.out)) | fail)
          have HO8 : Hid (OwnB w7 w1.heap.size (.slice A7 (Lb + M3) c7) ((Xs ++ [X]).flatMap frU)) := by
            show OwnB _ _ _ _
            rw [flat_snoc]
            exact ho7.out
          have HB8 := Lib.hid hb7
          clear ho7 hb7 hg7 HOh HNh HBh HXh
          have hn1 := below_new w7 (.cells #[.int .i64 10] 40)
          have HN8 : Hid ((w7.alloc (.cells #[.int .i64 10] 40)).ownsRow w1.heap.size 40 1 (.slice A2 q c2) q ((Xs.map errF).map (Value.int .i64))) := by
            have h := HN7.out.ext hn1
            unfold OwnN at h
            rw [List.length_map, HXq.out] at h
            exact h
          have HB9' := Lib.hid (HB8.out.trans (below_le HB8.out.size hn1))
          have HOn : Hid (OwnB (w7.alloc (.cells #[.int .i64 10] 40)) w1.heap.size (.slice A7 (Lb + M3) c7) ((Xs ++ [X]).flatMap frU)) := own_turned (P := fun _ => False) HO8.out (Turned.of_below hn1) (fun _ _ => id)
          clear hn1 HN7
          go_wp2_with (first | (at_builtin; go_loud (refine wpList_append_gen rfl (.tmp 76) (.tmp 77) 59 rfl 40 ii _ 1 8 Tryz.underlying59 HI.out HZ.out HSz.out HY.out rfl (by omega) w1.heap.size w1 _ q ((Xs.map errF).map (Value.int .i64)) rfl HN8.out ⟨w7.heap.size, 0, none⟩ 1 1 [.int .i64 10] rfl rfl (cell_en _ _ _) (one_en _) (by unfold maxLen; omega) (by omega) HB9'.out HB9'.out.size ?_); intro A9 c9 w9 ho9 hg9 hob9 hb9 hs9) | fail)
          have HN9 : Hid (OwnN w9 w1.heap.size (.slice A9 (q + 1) c9) ((Xs ++ [X]).map errF)) := by
            refine OwnN.of ho9.out ?_ ?_
            · rw [List.map_append, List.map_append, List.map_cons, List.map_nil, hz]
              rfl
            · rw [List.length_map, List.length_append, HXq.out]
              rfl
          exact ⟨⟨q + 1, Lb + M3, A7, c7, A9, c9, Xs ++ [X], by omega, by omega, by rw [List.length_append, HXq.out]; rfl, rfl, rfl, by go_num, HOn.out.pastN HN8.out hg9.out, HN9.out, HE2.out, hb9⟩, by simp [intOf]; omega⟩
    · go_upto_region 7 with fail
      go_cut [24] from 17 to 24 (fun s24 wx => s24 = .bool false ∧ wr = wx)
      case first =>
        by_cases hn1 : q < n
        · have hi1 : (q : Int) < n := by omega
          have hi2 : ¬ (q : Int) < 12 := by omega
          go_wp2_with fail
          go_meet
          exact ⟨rfl, rfl⟩
        · have hi1 : ¬ (q : Int) < n := by omega
          go_wp2_with fail
          go_meet
          exact ⟨rfl, rfl⟩
      case rest =>
        obtain ⟨rfl, rfl⟩ := hcut
        go_wp2_with fail
        have hb8 : Below w.heap.size w wr := HB1.out.trans (below_le HB1.out.size hB.out)
        have hEl := hE.out.len
        have hXq := HXq.out
        have hOl := hO.out.rd.len
        have hAll := hE.out.all (n := 8000) (by omega)
        have hDo := feed_do (HF1.out.ext hB.out) HL1.out (by omega) hO.out.rd (by simp; omega) (by omega) (by omega) (Nat.zero_le _) (fun e he => hE.out.rd e (by rw [← hAll]; exact he))
        rw [show ((3 : Nat) : Int) = 3 from rfl] at hDo
        have HDo := Lib.hid hDo
        have HAll := Lib.hid hAll
        have hNl := World.ownsRow.lt hN.out
        have hbsv : b < sv := HL1.out.b
        clear hEl hXq hOl hAll hDo hO
        with_reducible refine HDo.out.mono ?_
        rintro er w2 ⟨rfl, hF2, hT2⟩
        rw [List.nil_append] at hF2
        have hsv1 : sv < w1.heap.size := HSv1.out
        have HN2 : Hid (OwnN w2 w1.heap.size (.slice A2 q c2) (Xs.map errF)) := hN.out.turned hT2 (fun g e h => by have := (hNl g e).1; omega)
        have hbw : w.heap.size ≤ b ∧ w.heap.size ≤ sv := by omega
        have HB2 := Lib.hid (hT2.below hb8 hb8.size (fun i hi => by rcases hi with rfl | rfl <;> omega))
        have hm : ((allM 8000 (Xs.flatMap frU) 0).drop 0).length = q := by rw [List.drop_zero, HAll.out, List.length_map, HXq.out]
        have hOn := feed_one hF2 HL1.out (by omega) (by have := hE.out.len; have := HXq.out; omega) q hm
        rw [List.drop_zero, HAll.out, show ((3 : Nat) : Int) = 3 from rfl] at hOn
        have HOn := Lib.hid hOn
        have HNl := Lib.hid hNl
        clear hF2 hT2 hm hOn hN hNl hb8 HDo hB
        go_wp2_with fail
        with_reducible refine HOn.out.mono ?_
        rintro er w3 ⟨A3, c3, Ls, rfl, hL3, hK3, hF3, hT3, hP3⟩
        have HN3 : Hid (OwnN w3 w1.heap.size (.slice A2 q c2) (Xs.map errF)) := HN2.out.turned hT3 (fun g e h => by have := (HNl.out g e).1; have h : g = sv := h; omega)
        have HB3 := Lib.hid (hT3.below HB2.out HB2.out.size (fun i hi => by have hi : i = sv := hi; omega))
        have HEr := Lib.hid hL3.errs
        have HK3 := Lib.hid hK3
        have HF3 := Lib.hid hF3
        have hc3 := hK3.cap
        have hc4 := hK3.big
        have hLs := hK3.len
        rw [List.length_map] at hLs
        have HLs := Lib.hid hLs
        clear hL3 hK3 hF3 hT3 hP3 HN2 HB2 HOn hLs
        go_wp2_with fail
        obtain ⟨wo, rfl⟩ : ∃ wo, wo = wr := ⟨_, rfl⟩
        go_loopw [10, 86] (fun s10 i wr => ∃ (k : Nat) (A4 : Option Addr) (c4 : Nat), k ≤ q ∧ i = .int .i64 k ∧ s10 = .slice A4 k c4 ∧ Hid (OwnN wr w3.heap.size (.slice A4 k c4) ((Ls.take k).map RpR.er)) ∧ Hid (Below w3.heap.size w3 wr)) (fun _ i _ => q - (intOf i).toNat)
        case atStart => exact ⟨0, none, 0, Nat.zero_le _, rfl, rfl, OwnN.nil _ _, Below.refl _ _⟩
        case round =>
          obtain ⟨k, A4, c4, hkq, rfl, rfl, hO4, hB4⟩ := hrel
          by_cases hlk : k < q
          · have hki : (k : Int) < q := by omega
            obtain ⟨x, hx⟩ : ∃ x, Ls[k]? = some x := ⟨Ls[k]'(by have := HLs.out; omega), List.getElem?_eq_getElem _⟩
            obtain ⟨g, hg3, _, hce⟩ := (HK3.out.ext hB4.out).cell k x.cells (by rw [List.getElem?_map, hx]; rfl)
            subst hg3
            have hl0 : (ldRp (.pointer (some ⟨g, k * 6, none⟩))).run Tryz.prog wr = _ := ldRp_row hce
            have hst := stRp_row wr wr.heap.size rfl #[.int .i64 0, .int .i64 0, .int .i64 0, .int .i64 0, .slice none 0 0, .slice none 0 0] rfl x
            have hn1 := below_new wr (.cells x.cells.toArray 43)
            have hc1 : (wr.alloc (.cells x.cells.toArray 43)).cell? ⟨wr.heap.size, 1, none⟩ = some (.int .i64 x.er) := (Bk.made wr 43 x.cells.toArray).cell 1
            have hB1' := hB4.out.trans (below_le hB4.out.size hn1)
            have hO1' : OwnN (wr.alloc (.cells x.cells.toArray 43)) w3.heap.size (.slice A4 k c4) ((Ls.take k).map RpR.er) := hO4.out.ext hn1
            have htk : (Ls.take (k + 1)).map RpR.er = (Ls.take k).map RpR.er ++ [x.er] := by
              rw [List.take_add_one, hx, List.map_append]
              rfl
            have hkl : (Ls.take k).length = k := by rw [List.length_take]; have := HLs.out; omega
            have HTk := Lib.hid htk
            clear hx hce hn1 hO4 hB4 htk
            generalize x.cells.toArray = xc at hl0 hst hc1 hB1' hO1'
            have hn2 := below_new (wr.alloc (.cells xc 43)) (.cells #[.int .i64 x.er] 40)
            have HB5 := Lib.hid (hB1'.trans (below_le hB1'.size hn2))
            have HO5 : Hid (((wr.alloc (.cells xc 43)).alloc (.cells #[.int .i64 x.er] 40)).ownsRow w3.heap.size 40 1 (.slice A4 k c4) k (((Ls.take k).map RpR.er).map (Value.int .i64))) := by
              have h := hO1'.ext hn2
              unfold OwnN at h
              rw [List.length_map, hkl] at h
              exact h
            have HKl := Lib.hid hkl
            have hce2 : ∀ j u, [Value.int .i64 x.er][j]? = some u → ((wr.alloc (.cells xc 43)).alloc (.cells #[.int .i64 x.er] 40)).cell? ((⟨wr.heap.size + 1, 0, none⟩ : Addr).add j) = some u := by
              have h := cell_en (wr.alloc (.cells xc 43)) 40 (.int .i64 x.er)
              rw [show (wr.alloc (.cells xc 43)).heap.size = wr.heap.size + 1 from World.size_alloc _ _] at h
              exact h
            clear hn2 hB1' hO1' hkl
            go_wp2_with (first | (at_builtin; go_loud (refine wpList_append_gen rfl (.tmp 90) (.tmp 93) 59 rfl 40 ii _ 1 8 Tryz.underlying59 HI.out HZ.out HSz.out HY.out rfl (by omega) w3.heap.size w3 _ k (((Ls.take k).map RpR.er).map (Value.int .i64)) rfl HO5.out ⟨wr.heap.size + 1, 0, none⟩ 1 1 [.int .i64 x.er] rfl rfl hce2 (one_en _) (by unfold maxLen; omega) (by omega) HB5.out HB5.out.size ?_); intro A9 c9 w9 ho9 hg9 hob9 hb9 hs9) | fail)
            have HN9 : Hid (OwnN w9 w3.heap.size (.slice A9 (k + 1) c9) ((Ls.take (k + 1)).map RpR.er)) := by
              refine OwnN.of ho9.out ?_ ?_
              · rw [HTk.out, List.map_append]
                rfl
              · rw [HTk.out, List.length_append, List.length_map, HKl.out]
                rfl
            exact ⟨⟨k + 1, A9, c9, by omega, by go_num, rfl, HN9.out, hb9⟩, by simp [intOf]; omega⟩
          · have hki : ¬ (k : Int) < q := by omega
            have hkq2 : q = k := by omega
            subst hkq2
            have HN4 := Lib.hid (HN3.out.ext hB4.out)
            have HB4 := Lib.hid (HB3.out.trans (below_le HB3.out.size hB4.out))
            have hG := hO4.out
            rw [List.take_of_length_le (by have := HLs.out; omega), HEr.out] at hG
            have HF4 := Lib.hid (HF3.out.ext hB4.out)
            obtain ⟨Aa, ca, ea, ra⟩ := hG.open_
            obtain ⟨Ab, cb, eb, rb⟩ := HN4.out.open_
            injection ea with e1 e2 e3
            injection eb with f1 f2 f3
            subst e1 e3 f1 f3
            rw [List.length_map, HXq.out] at ra rb
            have HSm := Lib.hid (sameN_any _ _ _ _ _ _ wr ra rb)
            clear hO4 hB4 hG ra rb e2 f2
            go_wp2_with (first | (go_at_call 16; go_loud (with_reducible refine HSm.out.mono ?_); rintro er w5 ⟨rfl, hb5⟩; have HAw : Hid (Calls Tryz.prog 17 #[.pointer (some ⟨sv, 0, none⟩), .int .i64 3] w5 fun e w' => e = .returned (.int .i64 0) ∧ w' = w5) := feed_awaits (i := 3) (HF4.out.ext hb5) (by omega); have HB5 := Lib.hid (HB4.out.trans (below_le HB4.out.size hb5)); clear hb5) | (go_at_call 17; go_loud (with_reducible refine HAw.out.mono ?_); rintro er w6 ⟨rfl, rfl⟩) | (go_at_call 3; go_loud (with_reducible refine (serverRuns_any (HLd.out.below HB5.out)).mono ?_); rintro er w7 ⟨rfl, hb7⟩; have HB7 := Lib.hid (HB5.out.trans (below_le HB5.out.size hb7)); clear hb7) | fail)
            go_ret
            exact ⟨rfl, HB7.out⟩
end Go.Proofs.YtkdlofgfkfhofaaGreatDoor

/-
  stavelaw25: ServerEach, over whatever came.
-/
namespace Go.Proofs.YtkdlofgfkfhofaaGreatDoor
open Go.ChangeShapes Go.WideShapes Go.ChangeAt Go.RowKit
set_option maxRecDepth 100000 in
theorem serverEach_law {H : Type} {enc : TypeId × Value → H} {base : Nat} {v0 v1 : Value} {d0 d1 : DataW H} {p0 p1 : List MemPlace} (w : World) (hl : ErrLaid w) (h0 : Came enc w base 57 v0 d0 p0) (h1 : Came enc w base 58 v1 d1 p1) :
    Calls Tryz.prog 6 #[v0, v1] w fun er w' => er = .returned (.bool true) ∧ Below w.heap.size w w' := by
  obtain ⟨A, n, c, l, rfl, hr⟩ := h0.moves
  obtain ⟨Ao, no, co, ls, rfl, ho⟩ := h1.rows
  exact serverEach_any A n c l Ao no co ls hr ho hl
end Go.Proofs.YtkdlofgfkfhofaaGreatDoor
