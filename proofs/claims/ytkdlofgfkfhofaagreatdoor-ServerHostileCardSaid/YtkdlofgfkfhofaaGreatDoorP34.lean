import Derived.Test.YtkdlofgfkfhofaaGreatDoorP20
import Derived.Test.YtkdlofgfkfhofaaGreatDoorP03
import Derived.Lib.AppendZeros
import Derived.Test.YtkdlofgfkfhofaaGreatDoorP33
import Derived.Test.YtkdlofgfkfhofaaGreatDoorP24
/-
  slices.Grow of nothing, slices.Concat of byte slices.
-/
namespace Go.Proofs.YtkdlofgfkfhofaaGreatDoor
open Go.RowKit Go.Maps

/-- a byte slice, and what it reads as -/
structure SB where
  A : Option Addr
  n : Nat
  c : Nat
  l : List UInt8
def SB.v (s : SB) : Value := .slice s.A s.n s.c
def SB.ok (w : World) (s : SB) : Prop := RdB w s.A s.n s.c s.l
def tot (ss : List SB) : List UInt8 := ss.flatMap SB.l
theorem tot_take {ss : List SB} {i : Nat} {s : SB} (h : ss[i]? = some s) : tot (ss.take (i + 1)) = tot (ss.take i) ++ s.l := by
  unfold tot
  rw [List.take_add_one, h]
  simp
theorem tot_le (ss : List SB) (i : Nat) : (tot (ss.take i)).length ≤ (tot ss).length := by
  have h : tot ss = tot (ss.take i) ++ tot (ss.drop i) := by
    unfold tot
    rw [← List.flatMap_append, List.take_append_drop]
  rw [h, List.length_append]
  omega
def apMake (v : Value) (k : Int) : Sem Value := Builtin.append_ #[26, 3] 26 #[v, .int .i64 k]
theorem wpList_make {ops : Array Oper} {rest : List Oper} {o : Oper} {a : Act} {Q : Exit → Act → World → Prop} {w : World} (hgd : o.guard = none) (s x : Operand)
    (ho : o.op = .call { callee := .builtin .append, args := #[s, x], argTypes := #[26, 3] }) (hty : o.type = 26) (v : Value) (k : Int) (hs : a.eval s = v) (hx : a.eval x = .int .i64 k) (r : Value) (w' : World) (hrun : (apMake v k).run Tryz.prog w = .ok r w')
    (h : wpList Tryz.prog ops Q rest (a.put o.dst r) w') : wpList Tryz.prog ops Q (o :: rest) a w := by
  refine wpList_plain hgd fun K hK => ?_
  unfold apMake at hrun
  unfold Oper.wp execOp
  simp only [ho, hty, resolve, invoke, builtin, Sem.run_bind, Sem.run_pure, Result.andThen_ok, List.map_toArray, List.map_cons, List.map_nil, hs, hx, hrun]
  exact hK _ _ h
set_option maxRecDepth 100000 in
set_option maxHeartbeats 2000000 in
theorem grow_any (n : Nat) (hn : n ≤ 1000000) (w : World) :
    Calls Tryz.prog 106 #[.slice none 0 0, .int .i64 n] w fun e w' => ∃ A c, e = .returned (.slice A 0 c) ∧ OwnB w' w.heap.size (.slice A 0 c) [] ∧ Below w.heap.size w w' := by
  by_cases h0 : n = 0
  · subst h0
    go_enter Tryz.func106, Tryz.ntmps106
    go_wp2_with fail
    go_ret
    exact ⟨_, _, rfl, OwnB.nil _ _, Below.refl _ _⟩
  · obtain ⟨ii, hi, hz, hs, hy⟩ := info_byte'
    have hap := Lib.run_append_nil_zeros w 26 3 26 5 ii (.int .u8 0) .i64 .i64 Tryz.underlying26 Tryz.underlying3 hi hz n (by omega) (by omega) (by omega) (by rw [hy]; omega)
    replace hap : (apMake (.slice none 0 0) n).run Tryz.prog w = _ := hap
    have hge := grownCap_ge w n 0 5
    have hle := grownCap_le_maxLen w n 0 5 (by unfold maxLen; omega)
    have hzs : (Builtin.zeroCells (Value.int .u8 0).cells n ++ Builtin.zeroCells (Value.int .u8 0).cells (grownCap w n 0 5 - n)).size = grownCap w n 0 5 * 1 := by
      rw [Array.size_append, size_zeroCells, size_zeroCells]
      simp [Value.cells]
      omega
    have hown : (w.drew.alloc (.cells (Builtin.zeroCells (Value.int .u8 0).cells n ++ Builtin.zeroCells (Value.int .u8 0).cells (grownCap w n 0 5 - n)) 5)).ownsRow w.heap.size 5 1 (.slice (some ⟨w.heap.size, 0, none⟩) 0 (grownCap w n 0 5)) 0 [] := World.ownsRow_made w.drew _ _ (Nat.le_refl _) hle hzs
    have hbel : Below w.heap.size w (w.drew.alloc (.cells (Builtin.zeroCells (Value.int .u8 0).cells n ++ Builtin.zeroCells (Value.int .u8 0).cells (grownCap w n 0 5 - n)) 5)) := (below_drew1 (Below.refl _ _)).alloc (Nat.le_refl _) _
    generalize w.drew.alloc (.cells (Builtin.zeroCells (Value.int .u8 0).cells n ++ Builtin.zeroCells (Value.int .u8 0).cells (grownCap w n 0 5 - n)) 5) = w1 at hap hown hbel
    generalize grownCap w n 0 5 = gc at hap hown hge hle
    have HO := Lib.hid hown
    have HB := Lib.hid hbel
    have HL := Lib.hid hle
    have hgt : (0 : Int) < n := by omega
    unfold maxLen at hle
    clear hown hbel hi hz hs hy
    clear hzs
    go_enter Tryz.func106, Tryz.ntmps106
    go_wp2_with (first | (at_builtin; go_loud (refine wpList_make rfl _ _ rfl rfl _ _ rfl rfl _ _ hap ?_)) | fail)
    go_ret
    exact ⟨_, _, rfl, HO.out, HB.out⟩
set_option maxRecDepth 100000 in
set_option maxHeartbeats 2000000 in
theorem concat_any (ss : List SB) (g n : Nat) (hn : ss.length = n) (hn8 : n ≤ 8) (w : World) (hb : Bk w g 26 (ss.map SB.v).toArray) (hok : ∀ s ∈ ss, s.ok w) (hlen : (tot ss).length ≤ 1000000) :
    Calls Tryz.prog 61 #[.slice (some ⟨g, 0, none⟩) n n] w fun e w' => ∃ A c, e = .returned (.slice A (tot ss).length c) ∧ OwnB w' w.heap.size (.slice A (tot ss).length c) (tot ss) ∧ Below w.heap.size w w' := by
  have HC : Hid (∀ v, Below w.heap.size w v → ∀ (i : Nat) (s : SB), ss[i]? = some s → v.cell? ⟨g, i, none⟩ = some (.slice s.A s.n s.c)) := fun v hv (i : Nat) (s : SB) hs => by
    rw [(hb.ext hv).cell, List.getElem?_toArray, List.getElem?_map, hs]
    rfl
  have HK : Hid (∀ v, Below w.heap.size w v → ∀ (i : Nat) (s : SB), ss[i]? = some s → RdB v s.A s.n s.c s.l) := fun v hv (i : Nat) (s : SB) hs => RdB.ext (show RdB w s.A s.n s.c s.l from hok s (List.mem_of_getElem? hs)) hv
  have HT : Hid (∀ i, (tot (ss.take i)).length ≤ 1000000) := fun i => Nat.le_trans (tot_le ss i) hlen
  have HN := Lib.hid hn
  have HL := Lib.hid hlen
  clear hb hok hlen hn
  go_enter Tryz.func61, Tryz.ntmps61
  go_wp2_with fail
  go_loopw [3, 11] (fun z i wr => ∃ q : Nat, q ≤ n ∧ i = .int .i64 q ∧ z = .int .i64 (tot (ss.take q)).length ∧ wr = w) (fun _ i _ => n - (intOf i).toNat)
  case atStart => exact ⟨0, Nat.zero_le _, rfl, rfl, rfl⟩
  case round =>
    obtain ⟨q, hq, rfl, rfl, rfl⟩ := hrel
    by_cases hlt : q < n
    · have hi : (q : Int) < n := by omega
      obtain ⟨s, hs⟩ : ∃ s, ss[q]? = some s := ⟨ss[q]'(by rw [HN.out]; exact hlt), List.getElem?_eq_getElem _⟩
      have ce := HC.out _ (Below.refl _ _) q s hs
      have ht := tot_take hs
      have h1 := HT.out (q + 1)
      have hln : s.l.length = s.n := (HK.out _ (Below.refl _ _) q s hs).len
      rw [ht, List.length_append, hln] at h1
      have HE : Hid ((tot (ss.take (q + 1))).length = (tot (ss.take q)).length + s.n) := by show _ = _; rw [ht, List.length_append, hln]
      have w1 : ¬ (((tot (ss.take q)).length : Int) + s.n < 0) := by omega
      clear ht hln hs
      go_wp2_with fail
      exact ⟨⟨q + 1, by omega, by go_num, (by rw [HE.out]; exact ⟨by rw [Int.natCast_add], trivial⟩)⟩, by simp [intOf]; omega⟩
    · have hqn : q = n := by omega
      have hi : ¬ (q : Int) < n := by omega
      have htk : tot (ss.take q) = tot ss := by rw [hqn, ← HN.out, List.take_length]
      rw [htk]
      have HG := Lib.hid (grow_any (tot ss).length HL.out wr)
      clear htk
      go_wp2_with fail
      with_reducible refine HG.out.mono ?_
      rintro er w1 ⟨A1, c1, rfl, ho1, hb1⟩
      have HO1 := Lib.hid ho1
      have HB1 := Lib.hid hb1
      clear ho1 hb1
      go_wp2_with fail
      obtain ⟨wo, rfl⟩ : ∃ wo, wo = wr := ⟨_, rfl⟩
      go_loopw [6, 27] (fun v i wi => ∃ (q : Nat) (A : Option Addr) (c : Nat), q ≤ n ∧ i = .int .i64 q ∧ v = .slice A (tot (ss.take q)).length c ∧ Hid (OwnB wi wo.heap.size (.slice A (tot (ss.take q)).length c) (tot (ss.take q))) ∧ Hid (Below wo.heap.size wo wi)) (fun _ i _ => n - (intOf i).toNat)
      case atStart => exact ⟨0, A1, c1, Nat.zero_le _, rfl, rfl, HO1, HB1⟩
      case round =>
        obtain ⟨q, A, c, hq2, rfl, rfl, hO, hB⟩ := hrel
        clear HO1 HB1
        by_cases hlt2 : q < n
        · have hi2 : (q : Int) < n := by omega
          obtain ⟨s, hs⟩ : ∃ s, ss[q]? = some s := ⟨ss[q]'(by rw [HN.out]; exact hlt2), List.getElem?_eq_getElem _⟩
          have ce := HC.out _ hB.out q s hs
          have HR := Lib.hid (HK.out _ hB.out q s hs)
          have hln : s.l.length = s.n := HR.out.len
          have HT2 := Lib.hid (tot_take hs)
          have HE : Hid ((tot (ss.take q)).length + s.n = (tot (ss.take (q + 1))).length) := by show _ = _; rw [HT2.out, List.length_append, hln]
          have h2 := HT.out (q + 1)
          have HX : Hid ((tot (ss.take q)).length + s.n ≤ 1000000) := by show _ ≤ _; rw [HE.out]; exact h2
          clear hs hln h2
          obtain ⟨Lq, hLq⟩ : ∃ Lq, tot (ss.take (q + 1)) = Lq := ⟨_, rfl⟩
          rw [hLq] at HT2 HE
          have HLq := Lib.hid hLq
          clear hLq
          generalize tot (ss.take q) = Lp at HT2 HE HX hO
          go_wp2_with (first | (at_builtin; go_loud (refine wpList_append_bytes rfl (.tmp 31) (.tmp 32) rfl wo.heap.size wo _ Lp rfl hO.out s.A s.n s.c s.l rfl HR.out (by have := HX.out; omega) hB.out hB.out.size (Lp.length + s.n) rfl ?_); intro A6 c6 w6 ho6 hb6 hs6) | fail)
          refine ⟨⟨q + 1, A6, c6, by omega, by go_num, ?_, ?_, hb6⟩, by simp [intOf]; omega⟩
          · rw [HLq.out, ← HE.out]
          · rw [HLq.out, ← HE.out, HT2.out]
            exact ho6
        · have hqn2 : q = n := by omega
          have hi2 : ¬ (q : Int) < n := by omega
          have htk : tot (ss.take q) = tot ss := by rw [hqn2, ← HN.out, List.take_length]
          rw [htk] at hO ⊢
          clear htk
          go_wp2_with fail
          go_ret
          exact ⟨_, _, rfl, hO.out, hB.out⟩
end Go.Proofs.YtkdlofgfkfhofaaGreatDoor

/-
  server: its own block; say.
-/
namespace Go.Proofs.YtkdlofgfkfhofaaGreatDoor
open Go.RowKit Go.Maps

/-- a connection's cells -/
structure CV where
  inp : Value
  past : Value
  out : Value
  aw : Value
def CV.cells (v : CV) : List Value := [v.inp, v.past, v.out, v.aw]
def zC : CV := ⟨.slice none 0 0, .int .i64 0, .slice none 0 0, .slice none 0 0⟩
def svC (b : Nat) (c0 c1 c2 c3 : CV) : Array Value := #[.pointer (some ⟨b, 0, none⟩), c0.inp, c0.past, c0.out, c0.aw, c1.inp, c1.past, c1.out, c1.aw, c2.inp, c2.past, c2.out, c2.aw, c3.inp, c3.past, c3.out, c3.aw]
def svA (b : Nat) (cs : Nat → CV) : Array Value := svC b (cs 0) (cs 1) (cs 2) (cs 3)
def upC (cs : Nat → CV) (i : Nat) (v : CV) : Nat → CV := fun j => if j = i then v else cs j
theorem svA_get {b i : Nat} (cs : Nat → CV) (hi : i < 4) : (svA b cs)[1 + 4 * i]? = some (cs i).inp ∧ (svA b cs)[1 + 4 * i + 1]? = some (cs i).past ∧ (svA b cs)[1 + 4 * i + 2]? = some (cs i).out ∧ (svA b cs)[1 + 4 * i + 3]? = some (cs i).aw := by
  match i, hi with
  | 0, _ => exact ⟨rfl, rfl, rfl, rfl⟩
  | 1, _ => exact ⟨rfl, rfl, rfl, rfl⟩
  | 2, _ => exact ⟨rfl, rfl, rfl, rfl⟩
  | 3, _ => exact ⟨rfl, rfl, rfl, rfl⟩
theorem svA_set {b i : Nat} (cs : Nat → CV) (hi : i < 4) (u : Value) : (svA b cs).setIfInBounds (1 + 4 * i) u = svA b (upC cs i ⟨u, (cs i).past, (cs i).out, (cs i).aw⟩) ∧ (svA b cs).setIfInBounds (1 + 4 * i + 1) u = svA b (upC cs i ⟨(cs i).inp, u, (cs i).out, (cs i).aw⟩) ∧ (svA b cs).setIfInBounds (1 + 4 * i + 2) u = svA b (upC cs i ⟨(cs i).inp, (cs i).past, u, (cs i).aw⟩) ∧ (svA b cs).setIfInBounds (1 + 4 * i + 3) u = svA b (upC cs i ⟨(cs i).inp, (cs i).past, (cs i).out, u⟩) := by
  match i, hi with
  | 0, _ => exact ⟨rfl, rfl, rfl, rfl⟩
  | 1, _ => exact ⟨rfl, rfl, rfl, rfl⟩
  | 2, _ => exact ⟨rfl, rfl, rfl, rfl⟩
  | 3, _ => exact ⟨rfl, rfl, rfl, rfl⟩
theorem upC_same (cs : Nat → CV) (i : Nat) (v : CV) : upC cs i v i = v := if_pos rfl
theorem upC_up (cs : Nat → CV) (i : Nat) (v u : CV) : upC (upC cs i v) i u = upC cs i u := by
  funext j
  unfold upC
  split <;> rfl
/-- the server's own block, and nothing else of what was there, turned -/
structure SvW (w W : World) (sv b : Nat) (cs : Nat → CV) : Prop where
  bk : Bk W sv 81 (svA b cs)
  tu : Turned (fun i => i = sv) w W
theorem SvW.ext {w W W' : World} {sv b : Nat} {cs : Nat → CV} (h : SvW w W sv b cs) (hb : Below W.heap.size W W') : SvW w W' sv b cs := ⟨h.bk.ext hb, h.tu.then_below hb⟩
theorem SvW.put {w W : World} {sv b : Nat} {cs cs' : Nat → CV} (h : SvW w W sv b cs) {j : Nat} {u : Value} (he : (svA b cs).setIfInBounds j u = svA b cs') : SvW w (W.setCell ⟨sv, j, none⟩ u) sv b cs' := by
  refine ⟨?_, h.tu.then_grown (grown_set W ⟨sv, j, none⟩ u) (fun _ hk => .inl (Option.some.inj hk).symm)⟩
  have h1 := h.bk.put j u
  rwa [he] at h1
/-- a reply's bytes -/
def rpB (co er : Int) : List UInt8 := bytesAll rplF (rplV co er 0 0)
def frB (co er : Int) : List UInt8 := [23, 0] ++ rpB co er
theorem rpB_len (co er : Int) : (rpB co er).length = 23 := by
  unfold rpB rplV rplM rplF vsOf bytesAll
  simp [writV, numM, noT, nV, nF, leB_len]
theorem frB_len (co er : Int) : (frB co er).length = 25 := by
  unfold frB
  rw [List.length_append, rpB_len]
  rfl
theorem rp_ok {co er : Int} (h0 : 0 ≤ co) (h1 : co ≤ 4294967295) (h2 : 0 ≤ er) (h3 : er ≤ 255) : okAll rplF (rplV co er 0 0) = true := by
  unfold okAll rplV rplM rplF vsOf
  simp [fitsV, inF, numM, noT, nV, nF]
  exact ⟨⟨⟨h0, h1⟩, rfl⟩, ⟨⟨h2, h3⟩, rfl⟩, rfl, rfl⟩
set_option maxRecDepth 100000 in
set_option maxHeartbeats 4000000 in
theorem say_any {w : World} {sv b i : Nat} {cs : Nat → CV} (hS : Bk w sv 81 (svA b cs)) (hi : i < 4) {A : Option Addr} {n c : Nat} {l : List UInt8} (ho : (cs i).out = .slice A n c) (hr : RdB w A n c l) (hl : l.length ≤ 900000) {co er : Int} (hok : okAll rplF (rplV co er 0 0) = true) :
    Calls Tryz.prog 63 #[.pointer (some ⟨sv, 1 + 4 * i, none⟩), .agg (rpC co er 0 0)] w fun e w' => e = .returned (.tuple #[]) ∧ ∃ A' c', SvW w w' sv b (upC cs i ⟨(cs i).inp, (cs i).past, .slice A' (n + 25) c', (cs i).aw⟩) ∧ RdB w' A' (n + 25) c' (l ++ frB co er) ∧ (∀ ad, A' = some ad → w.heap.size ≤ ad.block) := by
  have hb0 := below_new w (.cells (rpC co er 0 0) 43)
  have hld := ldRp_bk (Bk.made w 43 (rpC co er 0 0))
  have HP := Lib.hid (rpPut_any co er 0 0 hok (w.alloc (.cells (rpC co er 0 0) 43)))
  have HB0 := Lib.hid hb0
  have HS := Lib.hid hS
  have HR := Lib.hid hr
  have HO := Lib.hid ho
  clear hS hr ho hok
  go_enter Tryz.func63, Tryz.ntmps63
  go_wp2_with fail
  with_reducible refine HP.out.mono ?_
  rintro er1 w1 ⟨A1, M1, c1, rfl, ho1, hb1⟩
  have hM : M1 = 23 := by
    have h1 := ho1.rd.len
    have h2 := rpB_len co er
    unfold rpB at h2
    omega
  subst hM
  have HB1 := Lib.hid (HB0.out.trans (below_le HB0.out.size hb1))
  have HO1 : Hid (OwnB w1 w.heap.size (.slice A1 23 c1) (rpB co er)) := ho1.more HB0.out.size
  have c2 : w1.cell? ⟨sv, 1 + 4 * i + 2, none⟩ = some (.slice A n c) := by
    rw [(HS.out.ext HB1.out).cell, (svA_get cs hi).2.2.1, HO.out]
  clear hb0 hb1 ho1 hld
  have hbh := below_new w1 (.cells #[.int .u8 23, .int .u8 0] 5)
  have hbs := hbh.trans (below_le hbh.size (below_new (w1.alloc (.cells #[.int .u8 23, .int .u8 0] 5)) (.cells #[.slice A n c, .slice (some ⟨w1.heap.size, 0, none⟩) 2 2, .slice A1 23 c1] 26)))
  have hrh : RdB (w1.alloc (.cells #[.int .u8 23, .int .u8 0] 5)) (some ⟨w1.heap.size, 0, none⟩) 2 2 [23, 0] := RdB.const _ [23, 0] _ rfl _ _ 2 rfl (by omega)
  have hkk := Bk.made (w1.alloc (.cells #[.int .u8 23, .int .u8 0] 5)) 26 #[.slice A n c, .slice (some ⟨w1.heap.size, 0, none⟩) 2 2, .slice A1 23 c1]
  have hss : (w1.alloc (.cells #[.int .u8 23, .int .u8 0] 5)).heap.size = w1.heap.size + 1 := by simp
  rw [hss] at hkk
  have htot : tot [⟨A, n, c, l⟩, ⟨some ⟨w1.heap.size, 0, none⟩, 2, 2, [23, 0]⟩, ⟨A1, 23, c1, rpB co er⟩] = l ++ frB co er := by
    simp [tot, frB]
  have hlen : (l ++ frB co er).length = n + 25 := by rw [List.length_append, frB_len, HR.out.len]
  have hC := concat_any [⟨A, n, c, l⟩, ⟨some ⟨w1.heap.size, 0, none⟩, 2, 2, [23, 0]⟩, ⟨A1, 23, c1, rpB co er⟩] (w1.heap.size + 1) 3 rfl (by omega) ((w1.alloc (.cells #[.int .u8 23, .int .u8 0] 5)).alloc (.cells #[.slice A n c, .slice (some ⟨w1.heap.size, 0, none⟩) 2 2, .slice A1 23 c1] 26)) hkk (fun s hs => by
    simp only [List.mem_cons, List.not_mem_nil, or_false] at hs
    rcases hs with rfl | rfl | rfl
    · exact RdB.ext (HR.out.ext HB1.out) hbs
    · exact RdB.ext hrh (below_new _ _)
    · exact RdB.ext HO1.out.rd hbs) (by rw [htot, hlen]; have := HR.out.len; omega)
  rw [htot, hlen] at hC
  have HC := Lib.hid hC
  have HS3 : Hid (SvW w ((w1.alloc (.cells #[.int .u8 23, .int .u8 0] 5)).alloc (.cells #[.slice A n c, .slice (some ⟨w1.heap.size, 0, none⟩) 2 2, .slice A1 23 c1] 26)) sv b cs) := (SvW.ext ⟨HS.out, Turned.refl _ _⟩ HB1.out).ext hbs
  have HZ3 : Hid (w.heap.size ≤ ((w1.alloc (.cells #[.int .u8 23, .int .u8 0] 5)).alloc (.cells #[.slice A n c, .slice (some ⟨w1.heap.size, 0, none⟩) 2 2, .slice A1 23 c1] 26)).heap.size) := Nat.le_trans HB1.out.size hbs.size
  clear hss htot hlen hkk hrh hbh hbs hC
  go_wp2_with fail
  generalize (w1.alloc (.cells #[.int .u8 23, .int .u8 0] 5)).alloc (.cells #[.slice A n c, .slice (some ⟨w1.heap.size, 0, none⟩) 2 2, .slice A1 23 c1] 26) = w3 at HC HS3 HZ3 ⊢
  with_reducible refine HC.out.mono ?_
  rintro er4 w4 ⟨A4, c4, rfl, ho4, hb4⟩
  have HS4 := Lib.hid (HS3.out.ext hb4)
  have HO4 := Lib.hid ho4
  have z4 := HS4.out.bk.thaw (1 + 4 * i + 2)
  have d4 : w4.cell? ⟨sv, 1 + 4 * i + 2, none⟩ = some (.slice A n c) := by
    rw [HS4.out.bk.cell, (svA_get cs hi).2.2.1, HO.out]
  clear hb4 ho4 c2 HC
  go_wp2_with fail
  go_end0
  have hp : ∀ ad, A4 = some ad → w.heap.size ≤ ad.block := by
    intro ad e
    rcases HO4.out.open_ with ⟨h1, _⟩ | ⟨g, cap, h1, h2, _⟩
    · injection h1 with h3 _ _
      rw [h3] at e
      cases e
    · injection h1 with h3 _ _
      rw [h3] at e
      injection e with e
      subst e
      exact Nat.le_trans HZ3.out h2
  have hsv := HS.out.lt
  refine ⟨rfl, A4, c4, HS4.out.put (svA_set cs hi _).2.2.1, RdB.grown HO4.out.rd (grown_set w4 ⟨sv, 1 + 4 * i + 2, none⟩ _) (fun ad e _ h => ?_), hp⟩
  have h1 := hp ad e
  have h2 : ad.block = sv := h
  omega
end Go.Proofs.YtkdlofgfkfhofaaGreatDoor
