import Derived.Test.YtkdlofgfkfhofaaGreatDoorP17
import Derived.Test.YtkdlofgfkfhofaaGreatDoorP09
import Derived.Test.YtkdlofgfkfhofaaGreatDoorP03
import Derived.Test.YtkdlofgfkfhofaaGreatDoorP01
import Derived.KernelRfl
import Derived.Test.YtkdlofgfkfhofaaGreatDoorIter
import Derived.CallsIn
/-
  volume: Open of a volume that was made; what asks it.
-/
namespace Go.Proofs.YtkdlofgfkfhofaaGreatDoor
open Go.RowKit Go.Maps
attribute [local go_sem ↓] ldCf_eq
set_option maxRecDepth 100000 in
set_option maxHeartbeats 4000000 in
theorem vOpen_made {w : World} {o : Nat → Option Nat} {r n S : Nat} {W : Nat → Nat → List UInt8} (h : StoAt w o r n S W) {c : CfgM} (hc : c.At n S) {k l m : Nat} (hk : c.k = (k : Int)) (hl : c.slots = (l : Int)) (hm : c.stripes = (m : Int)) (hW : MadeW W c n k l m) :
    Calls Tryz.prog 120 #[.pointer (some ⟨r, 0, none⟩)] w fun e w' => ∃ g, e = .returned (.tuple #[.pointer (some ⟨g, 0, none⟩), .nilIface]) ∧ w.heap.size ≤ g ∧ Bk w' g 178 (volC r c 1 false) ∧ Below w.heap.size w w' := by
  have hn8 := h.lt
  have hin := CfgM.right_in hc.right
  have hnE := hc.nE
  have HOf := Lib.hid (fun v => fun hb : Below w.heap.size w v => stoOff (h.ext hb))
  have HOn := Lib.hid (fun v => fun hb : Below w.heap.size w v => stoOnline (h.ext hb))
  have HFi := Lib.hid (fun v => fun hb : Below w.heap.size w v => superFind_any (h.ext hb) hc (fun i hi => hW.sup i hi))
  have HRc := Lib.hid (fun v => fun hb : Below w.heap.size w v => fun g => fun hg : Bk v g 178 (volC r c 1 false) => vRecover_made (h.ext hb) hc hk hl hm hW hg)
  have hk2 : ¬ (n : Int) < c.k := by have := hin.k2; omega
  have hd0 : decide ((n : Int) < c.k) = false := decide_eq_false hk2
  have HB0 := Lib.hid (Below.refl w.heap.size w)
  clear h hc hk hl hm hW hin hnE
  go_enter Tryz.func120, Tryz.ntmps120
  go_wp2_with (first | (go_at_call 47; go_loud ((with_reducible refine (HOf.out _ HB0.out).mono ?_); rintro er w4 ⟨rfl, rfl⟩)) | (go_at_call 179; go_loud ((with_reducible refine (HFi.out _ HB0.out).mono ?_); rintro er w5 ⟨rfl, hb5⟩; have HB5 := Lib.hid hb5; clear hb5)) | fail)
  have hk6 := Bk.made w5 25 #[.int .i64 c.id, .int .i64 c.k, .int .i64 c.n, .int .i64 c.stripes, .int .i64 c.slots]
  have HB6 := Lib.hid (HB5.out.trans (below_le HB5.out.size (below_new w5 (.cells #[.int .i64 c.id, .int .i64 c.k, .int .i64 c.n, .int .i64 c.stripes, .int .i64 c.slots] 25))))
  generalize w5.alloc (.cells #[.int .i64 c.id, .int .i64 c.k, .int .i64 c.n, .int .i64 c.stripes, .int .i64 c.slots] 25) = w6 at hk6 HB6 ⊢
  generalize w5.heap.size = gc at hk6 ⊢
  have HK6 := Lib.hid hk6
  clear hk6 HB5 HB0
  have FS : Hid (∀ v, Below w6.heap.size w6 v → v.cell? ⟨gc, 1, none⟩ = some (.int .i64 c.k)) := fun v hv => (HK6.out.ext hv).cell 1
  have B0 : Hid (Below w6.heap.size w6 w6.drew) := below_drew1 (Below.refl _ _)
  go_region_held3 (fun v => v.cell? ⟨gc, 1, none⟩ = some (.int .i64 c.k)) (first | exact FS.out _ B0.out | exact FS.out _ B5.out | fail) (first | (go_at_call 48; go_loud ((with_reducible refine (HOn.out _ (HB6.out.trans (below_le HB6.out.size B0.out))).mono ?_); rintro er w7 ⟨v7, rfl, hv7, hb7⟩; have B5 := Lib.hid (B0.out.trans (below_le B0.out.size hb7)); obtain ⟨A7, cp7, hA7, hcl7⟩ := hv7.open_; rw [upto_len] at hA7; subst hA7; clear hcl7 hv7 hb7)) | fail)
  have hld7 := ldCf_bk (HK6.out.ext B5.out)
  have HB7 := Lib.hid (HB6.out.trans (below_le HB6.out.size B5.out))
  clear HB6 B0 B5 FS HOn HFi HOf HK6
  go_wp2_with fail
  have hk8 := Bk.made w7 178 (volC r c 1 false)
  have HB8 := Lib.hid (HB7.out.trans (below_le HB7.out.size (below_new w7 (.cells (volC r c 1 false) 178))))
  have HC := Lib.hid (HRc.out _ HB8.out _ hk8)
  have HK8 := Lib.hid hk8
  clear hk8 hld7 HRc
  with_reducible refine HC.out.mono ?_
  rintro er w9 ⟨rfl, hb9⟩
  have HK9 := Lib.hid (HK8.out.ext hb9)
  have HB9 := Lib.hid (HB8.out.trans (below_le HB8.out.size hb9))
  have hz := HB7.out.size
  clear hb9 HC HB8 HK8
  go_wp2_with fail
  go_ret2
  exact ⟨_, rfl, hz, HK9.out, HB9.out⟩
set_option maxRecDepth 100000 in
theorem vDown_any {w : World} {g r : Nat} {c : CfgM} {seq : Int} {d : Bool} (h : Bk w g 178 (volC r c seq d)) :
    Calls Tryz.prog 46 #[.pointer (some ⟨g, 0, none⟩)] w fun e w' => e = .returned (.bool d) ∧ w' = w := by
  have c7 : w.cell? ⟨g, 7, none⟩ = some (.bool d) := h.cell 7
  clear h
  go_enter Tryz.func46, Tryz.ntmps46
  go_wp2_with fail
  go_ret
  exact ⟨rfl, rfl⟩
set_option maxRecDepth 100000 in
set_option maxHeartbeats 1000000 in
theorem vRead_made {w : World} {o : Nat → Option Nat} {r n S : Nat} {W : Nat → Nat → List UInt8} (h : StoAt w o r n S W) {c : CfgM} (hc : c.At n S) {k l m : Nat} (hk : c.k = (k : Int)) (hl : c.slots = (l : Int)) (hm : c.stripes = (m : Int)) (hW : MadeW W c n k l m) {g : Nat} (hv : Bk w g 178 (volC r c 1 false)) {s : Nat} (hs : s < m) :
    Calls Tryz.prog 121 #[.pointer (some ⟨g, 0, none⟩), .int .i64 s] w fun e w' => ∃ v, e = .returned (.tuple #[v, .int .i64 1, .nilIface]) ∧ Below w.heap.size w w' := by
  have c7 : w.cell? ⟨g, 7, none⟩ = some (.bool false) := hv.cell 7
  have c0 : w.cell? ⟨g, 0, none⟩ = some (.pointer (some ⟨r, 0, none⟩)) := hv.cell 0
  have hld := ldCf_vol hv
  have FS : Hid (∀ v, Below w.heap.size w v → (v.cell? ⟨g, 0, none⟩ = some (.pointer (some ⟨r, 0, none⟩)) ∧ (ldCf (.pointer (some ⟨g, 1, none⟩))).run Tryz.prog v = .ok (.agg #[.int .i64 c.id, .int .i64 c.k, .int .i64 c.n, .int .i64 c.stripes, .int .i64 c.slots]) v)) := fun v hb => ⟨(hv.ext hb).cell 0, ldCf_vol (hv.ext hb)⟩
  have HG := Lib.hid (fun v => fun hb : Below w.heap.size w v => mGet_made (h.ext hb) hc hk hl hm hW hs)
  clear h hc hk hl hm hW hv
  go_enter Tryz.func121, Tryz.ntmps121
  go_wp2_with fail
  have B0 : Hid (Below w.heap.size w w.drew) := below_drew1 (Below.refl _ _)
  go_region_held3 (fun v => v.cell? ⟨g, 0, none⟩ = some (.pointer (some ⟨r, 0, none⟩)) ∧ (ldCf (.pointer (some ⟨g, 1, none⟩))).run Tryz.prog v = .ok (.agg #[.int .i64 c.id, .int .i64 c.k, .int .i64 c.n, .int .i64 c.stripes, .int .i64 c.slots]) v) (first | exact FS.out _ B0.out | exact FS.out _ B4.out | fail) (first | (go_at_call 177; go_loud ((with_reducible refine (HG.out _ B0.out).mono ?_); rintro er w4 ⟨v4, rfl, hv4, hb4⟩; have B4 := Lib.hid (B0.out.trans (below_le B0.out.size hb4)); clear hv4 hb4)) | fail)
  go_wp2_with (first | (go_at_call 39; go_loud ((with_reducible refine (wrap_nil _ _ _).mono ?_); rintro er w5 ⟨rfl, rfl⟩)) | fail)
  go_ret3
  exact ⟨_, rfl, B4.out⟩
attribute [local go_sem ↓] stCf_eq
set_option maxRecDepth 100000 in
theorem vConfig_any {w : World} {g r : Nat} {c : CfgM} {seq : Int} {d : Bool} (h : Bk w g 178 (volC r c seq d)) :
    Calls Tryz.prog 49 #[.pointer (some ⟨g, 0, none⟩)] w fun e w' => e = .returned (.agg #[.int .i64 c.id, .int .i64 c.k, .int .i64 c.n, .int .i64 c.stripes, .int .i64 c.slots]) ∧ Below w.heap.size w w' := by
  have hb0 := below_new w (.cells #[.int .i64 0, .int .i64 0, .int .i64 0, .int .i64 0, .int .i64 0] 25)
  have hld := ldCf_vol (h.ext hb0)
  have hst := stCf_new w w.heap.size rfl #[.int .i64 0, .int .i64 0, .int .i64 0, .int .i64 0, .int .i64 0] rfl c.id c.k c.n c.stripes c.slots
  have hb1 := below_new w (.cells #[.int .i64 c.id, .int .i64 c.k, .int .i64 c.n, .int .i64 c.stripes, .int .i64 c.slots] 25)
  have hk1 := Bk.made w 25 #[.int .i64 c.id, .int .i64 c.k, .int .i64 c.n, .int .i64 c.stripes, .int .i64 c.slots]
  have HB1 := Lib.hid hb1
  have HK1 := Lib.hid hk1
  clear h hb0 hb1 hk1
  go_enter Tryz.func49, Tryz.ntmps49
  go_wp2_with fail
  exact bodyPost_ret (results_cell_row rfl _ _ w.heap.size _ _ (0, 0) _ rfl HK1.out Tryz.underlying25 rfl size_cfg) rfl ⟨rfl, HB1.out⟩
end Go.Proofs.YtkdlofgfkfhofaaGreatDoor

/-
  tape: Open of a tape that has no entries.
-/
namespace Go.Proofs.YtkdlofgfkfhofaaGreatDoor
open Go.RowKit Go.Maps

def fldCf (v : Value) (i : Nat) : Sem Value := Instr.field 25 v i
theorem fldCf_eq (v : Value) (i : Nat) : Instr.field 25 v i = fldCf v i := rfl
theorem fldCf1 (a b c d e : Int) (w : World) : (fldCf (.agg #[.int .i64 a, .int .i64 b, .int .i64 c, .int .i64 d, .int .i64 e]) 1).run Tryz.prog w = .ok (.int .i64 b) w := by kernel_rfl
theorem fldCf3 (a b c d e : Int) (w : World) : (fldCf (.agg #[.int .i64 a, .int .i64 b, .int .i64 c, .int .i64 d, .int .i64 e]) 3).run Tryz.prog w = .ok (.int .i64 d) w := by kernel_rfl
attribute [local go_sem ↓] fldCf_eq
attribute [local go_sem] fldCf1 fldCf3
set_option maxRecDepth 100000 in
set_option maxHeartbeats 4000000 in
theorem tOpen_made {w : World} {o : Nat → Option Nat} {r n S : Nat} {W : Nat → Nat → List UInt8} (h : StoAt w o r n S W) {c : CfgM} (hc : c.At n S) {k l m : Nat} (hk : c.k = (k : Int)) (hl : c.slots = (l : Int)) (hm : c.stripes = (m : Int)) (hW : MadeW W c n k l m) :
    Calls Tryz.prog 69 #[.pointer (some ⟨r, 0, none⟩)] w fun e w' => ∃ t g, e = .returned (.tuple #[.pointer (some ⟨t, 0, none⟩), .slice none 0 0, .nilIface]) ∧ w.heap.size ≤ t ∧ Bk w' t 176 #[.pointer (some ⟨g, 0, none⟩), .int .i64 0] ∧ w.heap.size ≤ g ∧ Bk w' g 178 (volC r c 1 false) ∧ Below w.heap.size w w' := by
  have hm64 : m ≤ 64 := by have := (CfgM.right_in hc.right).s2; omega
  have HOp := Lib.hid (vOpen_made h hc hk hl hm hW)
  have HRd := Lib.hid (fun v => fun hb : Below w.heap.size w v => fun g : Nat => fun hg : Bk v g 178 (volC r c 1 false) => fun s : Nat => fun hs : s < m => vRead_made (h.ext hb) hc hk hl hm hW hg hs)
  have HM := Lib.hid hm
  clear h hc hk hl hm hW
  go_enter Tryz.func69, Tryz.ntmps69
  go_wp2_with (first | (go_at_call 120; go_loud ((with_reducible refine HOp.out.mono ?_); rintro er w1 ⟨g, rfl, hg1, hk1, hb1⟩)) | fail)
  have hb2 := below_new w1 (.cells #[.pointer (some ⟨g, 0, none⟩), .int .i64 0] 176)
  have hk2 := Bk.made w1 176 #[.pointer (some ⟨g, 0, none⟩), .int .i64 0]
  have HV2 := Lib.hid (hk1.ext hb2)
  have HB2 := Lib.hid (hb1.trans (below_le hb1.size hb2))
  have ht1 := hb1.size
  generalize w1.alloc (.cells #[.pointer (some ⟨g, 0, none⟩), .int .i64 0] 176) = w2 at hk2 HV2 HB2 ⊢
  generalize w1.heap.size = t at hk2 ht1 ⊢
  have HT2 := Lib.hid hk2
  clear hk1 hb1 hb2 hk2
  with_reducible refine (vConfig_any HV2.out).mono ?_
  rintro er w3 ⟨rfl, hb3⟩
  have HV3 := Lib.hid (HV2.out.ext hb3)
  have HT3 := Lib.hid (HT2.out.ext hb3)
  have HB3 := Lib.hid (HB2.out.trans (below_le HB2.out.size hb3))
  clear hb3 HV2 HT2 HB2
  go_wp2_with fail
  go_loopw [8, 28] (fun v i wr => ∃ s : Nat, s ≤ m ∧ i = .int .i64 s ∧ v = .slice none 0 0 ∧ Hid (Bk wr t 176 #[.pointer (some ⟨g, 0, none⟩), .int .i64 0]) ∧ Hid (Bk wr g 178 (volC r c 1 false)) ∧ Hid (Below w.heap.size w wr)) (fun _ i _ => m - (intOf i).toNat)
  case atStart => exact ⟨0, Nat.zero_le _, rfl, rfl, HT3, HV3, HB3⟩
  case round =>
    obtain ⟨s, hs, rfl, rfl, hT, hV, hB⟩ := hrel
    clear HT3 HV3 HB3
    by_cases hlt : s < m
    · have hi : (s : Int) < c.stripes := by rw [HM.out]; omega
      have HR := Lib.hid (HRd.out _ hB.out g hV.out s hlt)
      go_wp2_with (first | (go_at_call 121; go_loud ((with_reducible refine HR.out.mono ?_); rintro er w4 ⟨v4, rfl, hb4⟩; have HT4 := Lib.hid (hT.out.ext hb4); have HV4 := Lib.hid (hV.out.ext hb4); have HB4 := Lib.hid (hB.out.trans (below_le hB.out.size hb4)); clear hb4)) | fail)
      exact ⟨⟨s + 1, by omega, by go_num, rfl, HT4, HV4, HB4⟩, by simp [intOf]; omega⟩
    · have hsm : s = m := by omega
      have hi : ¬ (s : Int) < c.stripes := by rw [HM.out]; omega
      go_wp2_with fail
      go_ret3
      exact ⟨_, rfl, ht1, _, hT.out, hg1, hV.out, hB.out⟩
end Go.Proofs.YtkdlofgfkfhofaaGreatDoor

/-
  state: one that has no topics.
-/
namespace Go.Proofs.YtkdlofgfkfhofaaGreatDoor
open Go.RowKit Go.Maps

structure StE (w : World) (s tb gr : Nat) : Prop where
  bk : Bk w s 216 #[.map (some tb), .pointer (some ⟨gr, 0, none⟩)]
  map : w.ownsMap Tryz.prog 9 rawElem tb 0 (.map [])
theorem StE.turned {w w' : World} {P : Nat → Prop} {s tb gr : Nat} (h : StE w s tb gr) (ht : Turned P w w') (h1 : ¬ P s) (h2 : ¬ P tb) : StE w' s tb gr := ⟨h.bk.turned ht h1, map_turned h.map ht h2⟩
theorem StE.ext {w w' : World} {s tb gr : Nat} (h : StE w s tb gr) (hb : Below w.heap.size w w') : StE w' s tb gr := h.turned (P := fun _ => False) (Turned.of_below hb) id id
set_option maxRecDepth 100000 in
theorem grNew_any (w : World) : Calls Tryz.prog 119 #[] w fun e w' => e = .returned (.pointer (some ⟨w.heap.size + 1, 0, none⟩)) ∧ Below w.heap.size w w' := by
  have hmm := @run_makeMap Tryz.prog
  go_enter Tryz.func119, Tryz.ntmps119
  go_wp2
  go_ret
  have hs : (w.alloc (.map #[] 0)).heap.size = w.heap.size + 1 := by simp
  exact ⟨rfl, (below_new w _).trans (below_le (by simp) (below_new _ _))⟩
set_option maxRecDepth 100000 in
theorem stNew_any (w : World) : Calls Tryz.prog 68 #[] w fun e w' => ∃ (s tb gr : Nat), e = .returned (.pointer (some ⟨s, 0, none⟩)) ∧ StE w' s tb gr ∧ w.heap.size ≤ s ∧ w.heap.size ≤ tb ∧ Below w.heap.size w w' := by
  have hmm := @run_makeMap Tryz.prog
  have hb0 := Lib.hid (below_new w (.map #[] 0))
  have ho := Lib.hid (World.ownsMap_made (H := Value) w Tryz.prog 9 rawElem)
  have HG := Lib.hid (grNew_any (w.alloc (.map #[] 0)))
  go_enter Tryz.func68, Tryz.ntmps68
  go_wp2_with fail
  with_reducible refine HG.out.mono ?_
  rintro er w1 ⟨rfl, hb1⟩
  have HB1 := Lib.hid (hb0.out.trans (below_le hb0.out.size hb1))
  have HO1 := Lib.hid (ho.out.kept (grown_of_below hb1) (by simp))
  have hk := Lib.hid (Bk.made w1 216 #[.map (some w.heap.size), .pointer (some ⟨w.heap.size + 1 + 1, 0, none⟩)])
  have hn := Lib.hid (below_new w1 (.cells #[.map (some w.heap.size), .pointer (some ⟨w.heap.size + 1 + 1, 0, none⟩)] 216))
  clear hb1 HG hmm
  go_wp2_with fail
  go_ret
  exact ⟨_, _, _, rfl, ⟨hk.out, HO1.out.alloc _⟩, HB1.out.size, Nat.le_refl _, HB1.out.trans (below_le HB1.out.size hn.out)⟩
theorem key_strd : Keyed Tryz.prog 9 := string_keyed Tryz.underlying9
theorem zero_parts (w : World) : (zeroValue 341).run Tryz.prog w = .ok (.slice none 0 0) w := by kernel_rfl
theorem key_str_is {n : ByteArray} (h : n.size ≤ maxLen) : ∃ kl, keyOf Tryz.prog 9 (.string n) = some kl := by
  simp [keyOf, mapKey, Tryz.underlying9, h]
set_option maxRecDepth 100000 in
theorem StE.look {w : World} {s tb gr : Nat} (h : StE w s tb gr) (n : ByteArray) (hn : n.size ≤ maxLen) :
    (Instr.lookup 212 (.map (some tb)) (.string n) false).run Tryz.prog w = .ok (.slice none 0 0) w := by
  obtain ⟨kl, hkl⟩ := key_str_is hn
  obtain ⟨v, ps, hlk, hv⟩ := h.map.lookup key_strd Tryz.underlying212 (zero_parts _) (show rawElem (.slice none 0 0) = some (.held (.slice none 0 0), []) from rfl) hkl
  have hv : some (DataW.held v, ([] : List MemPlace)) = some (.held (.slice none 0 0), ps) := hv
  injection hv with hv
  injection hv with hv _
  injection hv with hv
  rw [hlk, hv]
set_option maxRecDepth 100000 in
set_option maxHeartbeats 1000000 in
theorem ePart_any {w : World} {s tb gr : Nat} (h : StE w s tb gr) (n : ByteArray) (hn : n.size ≤ maxLen) (k : Int) :
    Calls Tryz.prog 201 #[.pointer (some ⟨s, 0, none⟩), .string n, .int .i64 k] w fun e w' => e = .returned (.pointer none) ∧ w' = w := by
  have c0 : w.cell? ⟨s, 0, none⟩ = some (.map (some tb)) := h.bk.cell 0
  have hlk := h.look n hn
  clear h
  by_cases h0 : k < 0
  · have q0 : decide (k < 0) = true := decide_eq_true h0
    go_enter Tryz.func201, Tryz.ntmps201
    go_wp2
    go_ret
    exact ⟨rfl, rfl⟩
  · have q0 : decide (k < 0) = false := decide_eq_false h0
    have q1 : decide ((0 : Int) ≤ k) = true := decide_eq_true (by omega)
    go_enter Tryz.func201, Tryz.ntmps201
    go_wp2
    go_ret
    exact ⟨rfl, rfl⟩
set_option maxRecDepth 100000 in
theorem eLog_any {w : World} {s tb gr : Nat} (h : StE w s tb gr) (n : ByteArray) (hn : n.size ≤ maxLen) (k : Int) :
    Calls Tryz.prog 163 #[.pointer (some ⟨s, 0, none⟩), .string n, .int .i64 k] w fun e w' => e = .returned (.pointer none) ∧ w' = w := by
  have HP := Lib.hid (ePart_any h n hn k)
  clear h
  go_enter Tryz.func163, Tryz.ntmps163
  go_wp2_with fail
  with_reducible refine HP.out.mono ?_
  rintro er w1 ⟨rfl, rfl⟩
  go_wp2_with fail
  go_ret
  exact ⟨rfl, rfl⟩
end Go.Proofs.YtkdlofgfkfhofaaGreatDoor

/-
  mend.New; broker: fold of no entries, Open, New.
-/
namespace Go.Proofs.YtkdlofgfkfhofaaGreatDoor
open Go.RowKit Go.Maps

set_option maxRecDepth 100000 in
theorem mendNew_any (g : Nat) (w : World) : Calls Tryz.prog 71 #[.pointer (some ⟨g, 0, none⟩)] w fun e w' => e = .returned (.pointer (some ⟨w.heap.size, 0, none⟩)) ∧ Below w.heap.size w w' := by
  go_enter Tryz.func71, Tryz.ntmps71
  go_wp2_with fail
  go_ret
  exact ⟨rfl, below_new _ _⟩
set_option maxRecDepth 100000 in
theorem tVolume_any {w : World} {t g : Nat} {u : Int} (h : Bk w t 176 #[.pointer (some ⟨g, 0, none⟩), .int .i64 u]) : Calls Tryz.prog 45 #[.pointer (some ⟨t, 0, none⟩)] w fun e w' => e = .returned (.pointer (some ⟨g, 0, none⟩)) ∧ w' = w := by
  have c0 : w.cell? ⟨t, 0, none⟩ = some (.pointer (some ⟨g, 0, none⟩)) := h.cell 0
  clear h
  go_enter Tryz.func45, Tryz.ntmps45
  go_wp2_with fail
  go_ret
  exact ⟨rfl, rfl⟩
set_option maxRecDepth 100000 in
set_option maxHeartbeats 1000000 in
theorem fold_none (w : World) : Calls Tryz.prog 70 #[.slice none 0 0] w fun e w' => ∃ (s tb gr : Nat), e = .returned (.tuple #[.pointer (some ⟨s, 0, none⟩), .nilIface]) ∧ StE w' s tb gr ∧ w.heap.size ≤ s ∧ w.heap.size ≤ tb ∧ Below w.heap.size w w' := by
  have HN := Lib.hid (stNew_any w)
  go_enter Tryz.func70, Tryz.ntmps70
  go_wp2_with (first | (go_at_call 68; go_loud ((with_reducible refine HN.out.mono ?_); rintro er w1 ⟨s, tb, gr, rfl, he1, hs1, ht1, hb1⟩)) | fail)
  go_loopw [14] (fun i wr => i = .int .i64 0 ∧ wr = w1) (fun _ _ => 0)
  case atStart => exact ⟨rfl, rfl⟩
  case round =>
    obtain ⟨rfl, rfl⟩ := hrel
    go_wp2_with fail
    go_ret2
    exact ⟨_, _, _, rfl, he1, hs1, ht1, hb1⟩
abbrev brC (r : Nat) (t why s me ws : Value) (last : Int) : Array Value := #[.pointer (some ⟨r, 0, none⟩), t, why, s, me, ws, .int .i64 last]
/-- a broker's own block, and nothing else of what was there, turned -/
structure BrW (w W : World) (b : Nat) (cs : Array Value) : Prop where
  bk : Bk W b 105 cs
  tu : Turned (fun i => i = b) w W
theorem BrW.ext {w W W' : World} {b : Nat} {cs : Array Value} (h : BrW w W b cs) (hb : Below W.heap.size W W') : BrW w W' b cs := ⟨h.bk.ext hb, h.tu.then_below hb⟩
theorem BrW.put {w W : World} {b : Nat} {cs : Array Value} (h : BrW w W b cs) (i : Nat) (u : Value) : BrW w (W.setCell ⟨b, i, none⟩ u) b (cs.setIfInBounds i u) :=
  ⟨h.bk.put i u, h.tu.then_grown (grown_set W ⟨b, i, none⟩ u) (fun _ hk => .inl (Option.some.inj hk).symm)⟩
theorem BrW.sto {w W : World} {b : Nat} {cs : Array Value} (h : BrW w W b cs) {o : Nat → Option Nat} {r n S : Nat} {V : Nat → Nat → List UInt8} (hs : StoAt w o r n S V) (hb : o b = none) : StoAt W o r n S V := hs.turned h.tu (fun _ _ hi e => hi (e ▸ hb))
set_option maxRecDepth 100000 in
set_option maxHeartbeats 4000000 in
theorem bOpen_made {w : World} {o : Nat → Option Nat} {r n S : Nat} {W : Nat → Nat → List UInt8} (h : StoAt w o r n S W) {c : CfgM} (hc : c.At n S) {k l m : Nat} (hk : c.k = (k : Int)) (hl : c.slots = (l : Int)) (hm : c.stripes = (m : Int)) (hW : MadeW W c n k l m) {b : Nat} (hbo : o b = none) (hb : Bk w b 105 (brC r (.pointer none) .nilIface (.pointer none) (.pointer none) (.slice none 0 0) 0)) :
    Calls Tryz.prog 32 #[.pointer (some ⟨b, 0, none⟩)] w fun e w' => e = .returned .nilIface ∧ ∃ t g s tb gr me, Bk w' b 105 (brC r (.pointer (some ⟨t, 0, none⟩)) .nilIface (.pointer (some ⟨s, 0, none⟩)) me (.slice none 0 0) 0) ∧ Bk w' t 176 #[.pointer (some ⟨g, 0, none⟩), .int .i64 0] ∧ Bk w' g 178 (volC r c 1 false) ∧ StE w' s tb gr ∧ w.heap.size ≤ t ∧ w.heap.size ≤ g ∧ w.heap.size ≤ s ∧ w.heap.size ≤ tb ∧ Turned (fun i => i = b) w w' := by
  have HN := Lib.hid (fun v => stNew_any v)
  have HF := Lib.hid (fun v => fold_none v)
  have HT := Lib.hid (fun v : World => fun hv : StoAt v o r n S W => tOpen_made hv hc hk hl hm hW)
  have HS := Lib.hid h
  have HO := Lib.hid hbo
  have HB := Lib.hid hb
  have HL := Lib.hid hb.lt
  clear hb hbo h hc hk hl hm hW
  go_enter Tryz.func32, Tryz.ntmps32
  go_wp2_with fail
  with_reducible refine (HN.out _).mono ?_
  rintro er w1 ⟨s0, tb0, gr0, rfl, _, _, _, hb1⟩
  have HB1 : Hid (BrW w w1 b (brC r (.pointer none) .nilIface (.pointer none) (.pointer none) (.slice none 0 0) 0)) := BrW.ext ⟨HB.out, Turned.refl _ _⟩ hb1
  have c0 : w1.cell? ⟨b, 0, none⟩ = some (.pointer (some ⟨r, 0, none⟩)) := HB1.out.bk.cell 0
  have z1 := HB1.out.bk.thaw 1
  have z3 := HB1.out.bk.thaw 3
  have z4 := HB1.out.bk.thaw 4
  have z5 := HB1.out.bk.thaw 5
  have d1 : w1.cell? ⟨b, 1, none⟩ = some (.pointer none) := HB1.out.bk.cell 1
  have d3 : w1.cell? ⟨b, 3, none⟩ = some (.pointer none) := HB1.out.bk.cell 3
  have d4 : w1.cell? ⟨b, 4, none⟩ = some (.pointer none) := HB1.out.bk.cell 4
  have d5 : w1.cell? ⟨b, 5, none⟩ = some (.slice none 0 0) := HB1.out.bk.cell 5
  clear hb1
  go_wp2_with fail
  have HB2 : Hid (BrW w ((((w1.setCell ⟨b, 1, none⟩ (.pointer none)).setCell ⟨b, 4, none⟩ (.pointer none)).setCell ⟨b, 5, none⟩ (.slice none 0 0)).setCell ⟨b, 3, none⟩ (.pointer (some ⟨s0, 0, none⟩))) b (brC r (.pointer none) .nilIface (.pointer (some ⟨s0, 0, none⟩)) (.pointer none) (.slice none 0 0) 0)) := (((HB1.out.put 1 _).put 4 _).put 5 _).put 3 _
  generalize (((w1.setCell ⟨b, 1, none⟩ (.pointer none)).setCell ⟨b, 4, none⟩ (.pointer none)).setCell ⟨b, 5, none⟩ (.slice none 0 0)).setCell ⟨b, 3, none⟩ (.pointer (some ⟨s0, 0, none⟩)) = w2 at HB2 ⊢
  clear c0 z1 z3 z4 z5 d1 d3 d4 d5 HB1
  with_reducible refine (HT.out _ (HB2.out.sto HS.out HO.out)).mono ?_
  rintro er w3 ⟨t, g, rfl, ht3, hkt, hg3, hkg, hb3⟩
  have HB3 := Lib.hid (HB2.out.ext hb3)
  have hz3 := HB2.out.tu.size
  have HKt := Lib.hid hkt
  have HKg := Lib.hid hkg
  clear hb3 hkt hkg
  go_wp2_with fail
  with_reducible refine (HF.out _).mono ?_
  rintro er w4 ⟨s, tb, gr, rfl, he4, hs4, ht4, hb4⟩
  have hz4 := HB3.out.tu.size
  have HB4 := Lib.hid (HB3.out.ext hb4)
  have HKt4 := Lib.hid (HKt.out.ext hb4)
  have HKg4 := Lib.hid (HKg.out.ext hb4)
  have HE4 := Lib.hid he4
  have z2 := HB4.out.bk.thaw 2
  have d2 : w4.cell? ⟨b, 2, none⟩ = some .nilIface := HB4.out.bk.cell 2
  clear hb4 he4 HKt HKg HB2 HB3
  have hss : w4.setCell ⟨b, 2, none⟩ .nilIface = w4 := cell_same HB4.out.bk d2
  go_wp2_with (first | (go_at_call 39; go_loud ((with_reducible refine (wrap_nil _ _ _).mono ?_); rintro er w5 ⟨rfl, rfl⟩)) | fail)
  clear hss z2 d2
  with_reducible refine (tVolume_any HKt4.out).mono ?_
  rintro er w6 ⟨rfl, rfl⟩
  have HM := Lib.hid (mendNew_any g w6)
  go_wp2_with fail
  with_reducible refine HM.out.mono ?_
  rintro er w7 ⟨rfl, hb7⟩
  have HB7 := Lib.hid (HB4.out.ext hb7)
  have HKt7 := Lib.hid (HKt4.out.ext hb7)
  have HKg7 := Lib.hid (HKg4.out.ext hb7)
  have HE7 := Lib.hid (HE4.out.ext hb7)
  have z1 := HB7.out.bk.thaw 1
  have z3 := HB7.out.bk.thaw 3
  have z4 := HB7.out.bk.thaw 4
  have c2 : w7.cell? ⟨b, 2, none⟩ = some .nilIface := HB7.out.bk.cell 2
  have d1 : w7.cell? ⟨b, 1, none⟩ = some (.pointer none) := HB7.out.bk.cell 1
  have d3 : w7.cell? ⟨b, 3, none⟩ = some (.pointer (some ⟨s0, 0, none⟩)) := HB7.out.bk.cell 3
  have d4 : w7.cell? ⟨b, 4, none⟩ = some (.pointer none) := HB7.out.bk.cell 4
  clear hb7 HM HKt4 HKg4 HE4 HB4
  go_wp2_with fail
  go_ret
  have HX := ((((⟨HB7.out.bk, Turned.refl _ _⟩ : BrW w7 w7 b _).put 1 (.pointer (some ⟨t, 0, none⟩))).put 3 (.pointer (some ⟨s, 0, none⟩))).put 4 (.pointer (some ⟨w6.heap.size, 0, none⟩)))
  have hlt := HL.out
  exact ⟨rfl, t, g, s, tb, gr, _, HX.bk, HKt7.out.turned HX.tu (by omega), HKg7.out.turned HX.tu (by omega), HE7.out.turned HX.tu (by omega) (by omega), by omega, by omega, by omega, by omega, HB7.out.tu.wide (HX.tu.more fun i _ hi => .inl hi)⟩
set_option maxRecDepth 100000 in
set_option maxHeartbeats 4000000 in
theorem bNew_made {w : World} {o : Nat → Option Nat} {r n S : Nat} {W : Nat → Nat → List UInt8} (h : StoAt w o r n S W) {c : CfgM} (hc : c.At n S) {k l m : Nat} (hk : c.k = (k : Int)) (hl : c.slots = (l : Int)) (hm : c.stripes = (m : Int)) (hW : MadeW W c n k l m) :
    Calls Tryz.prog 54 #[.pointer (some ⟨r, 0, none⟩)] w fun e w' => ∃ b t g s tb gr me, e = .returned (.pointer (some ⟨b, 0, none⟩)) ∧ Bk w' b 105 (brC r (.pointer (some ⟨t, 0, none⟩)) .nilIface (.pointer (some ⟨s, 0, none⟩)) me (.slice none 0 0) 0) ∧ Bk w' t 176 #[.pointer (some ⟨g, 0, none⟩), .int .i64 0] ∧ Bk w' g 178 (volC r c 1 false) ∧ StE w' s tb gr ∧ w.heap.size ≤ b ∧ b < t ∧ b < g ∧ b < s ∧ b < tb ∧ Below w.heap.size w w' := by
  have hb0 := below_new w (.cells (brC r (.pointer none) .nilIface (.pointer none) (.pointer none) (.slice none 0 0) 0) 105)
  have HC := Lib.hid (bOpen_made (h.ext hb0) hc hk hl hm hW (h.newO (Nat.le_refl _)) (Bk.made w 105 (brC r (.pointer none) .nilIface (.pointer none) (.pointer none) (.slice none 0 0) 0)))
  have HB0 := Lib.hid hb0
  have hsz : (w.alloc (.cells (brC r (.pointer none) .nilIface (.pointer none) (.pointer none) (.slice none 0 0) 0) 105)).heap.size = w.heap.size + 1 := by simp
  have HZ := Lib.hid hsz
  clear hb0 hsz h hc hk hl hm hW
  go_enter Tryz.func54, Tryz.ntmps54
  go_wp2_with fail
  with_reducible refine HC.out.mono ?_
  rintro er w2 ⟨rfl, t, g, s, tb, gr, me, h1, h2, h3, h4, q1, q2, q3, q4, ht⟩
  rw [HZ.out] at q1 q2 q3 q4
  have HF : Hid (Bk w2 w.heap.size 105 (brC r (.pointer (some ⟨t, 0, none⟩)) .nilIface (.pointer (some ⟨s, 0, none⟩)) me (.slice none 0 0) 0) ∧ Bk w2 t 176 #[.pointer (some ⟨g, 0, none⟩), .int .i64 0] ∧ Bk w2 g 178 (volC r c 1 false) ∧ StE w2 s tb gr) := ⟨h1, h2, h3, h4⟩
  have HBe := Lib.hid (ht.below HB0.out HB0.out.size (fun i hi => by omega))
  clear h1 h2 h3 h4 ht HC
  go_wp2_with fail
  go_ret
  exact ⟨_, t, g, s, tb, gr, me, rfl, HF.out.1, HF.out.2.1, HF.out.2.2.1, HF.out.2.2.2, Nat.le_refl _, by omega, by omega, by omega, by omega, HBe.out⟩
end Go.Proofs.YtkdlofgfkfhofaaGreatDoor

/-
  broker: Mode of one that is fresh.
-/
namespace Go.Proofs.YtkdlofgfkfhofaaGreatDoor
open Go.RowKit Go.Maps

/-- a broker that is open, with no topics -/
structure BrkAt (w : World) (b r t g s tb gr : Nat) (me ws : Value) (last : Int) (c : CfgM) : Prop where
  bk : Bk w b 105 (brC r (.pointer (some ⟨t, 0, none⟩)) .nilIface (.pointer (some ⟨s, 0, none⟩)) me ws last)
  tp : Bk w t 176 #[.pointer (some ⟨g, 0, none⟩), .int .i64 0]
  vo : Bk w g 178 (volC r c 1 false)
  st : StE w s tb gr
theorem BrkAt.ext {w w' : World} {b r t g s tb gr : Nat} {me ws : Value} {last : Int} {c : CfgM} (h : BrkAt w b r t g s tb gr me ws last c) (hb : Below w.heap.size w w') : BrkAt w' b r t g s tb gr me ws last c := ⟨h.bk.ext hb, h.tp.ext hb, h.vo.ext hb, h.st.ext hb⟩
attribute [local go_sem ↓] fldCf_eq
attribute [local go_sem] fldCf1 fldCf3
set_option maxRecDepth 100000 in
set_option maxHeartbeats 4000000 in
theorem bMode_any {w : World} {o : Nat → Option Nat} {r n S : Nat} {W : Nat → Nat → List UInt8} (h : StoAt w o r n S W) {b t g s tb gr : Nat} {me ws : Value} {last : Int} {c : CfgM} (hc : c.At n S) (hB : BrkAt w b r t g s tb gr me ws last c) :
    Calls Tryz.prog 20 #[.pointer (some ⟨b, 0, none⟩)] w fun e w' => e = .returned .nilIface ∧ Below w.heap.size w w' := by
  have hin := CfgM.right_in hc.right
  have hnE := hc.nE
  have hk2 : ¬ (n : Int) < c.k := by have := hin.k2; omega
  have hd0 : decide ((n : Int) < c.k) = false := decide_eq_false hk2
  have HOn := Lib.hid (fun v => fun hb : Below w.heap.size w v => stoOnline (h.ext hb))
  have HOf := Lib.hid (stoOff h)
  have HT := Lib.hid (tVolume_any hB.tp)
  have HD := Lib.hid (vDown_any hB.vo)
  have HC := Lib.hid (fun v => fun hb : Below w.heap.size w v => vConfig_any (hB.vo.ext hb))
  have c1 : w.cell? ⟨b, 1, none⟩ = some (.pointer (some ⟨t, 0, none⟩)) := hB.bk.cell 1
  have c0 : w.cell? ⟨b, 0, none⟩ = some (.pointer (some ⟨r, 0, none⟩)) := hB.bk.cell 0
  have FS : Hid (∀ v, Below w.heap.size w v → v.cell? ⟨b, 0, none⟩ = some (.pointer (some ⟨r, 0, none⟩))) := fun v hb => (hB.bk.ext hb).cell 0
  clear h hc hB hin hnE
  go_enter Tryz.func20, Tryz.ntmps20
  go_wp2_with (first | (go_at_call 45; go_loud ((with_reducible refine HT.out.mono ?_); rintro er w1 ⟨rfl, rfl⟩)) | (go_at_call 46; go_loud ((with_reducible refine HD.out.mono ?_); rintro er w2 ⟨rfl, rfl⟩)) | (go_at_call 47; go_loud ((with_reducible refine HOf.out.mono ?_); rintro er w4 ⟨rfl, rfl⟩)) | fail)
  have B0 : Hid (Below w4.heap.size w4 w4) := Below.refl _ _
  with_reducible refine (HOn.out _ B0.out).mono ?_
  rintro er w5 ⟨v5, rfl, hv5, hb5⟩
  obtain ⟨A5, cp5, hA5, hcl5⟩ := hv5.open_
  rw [upto_len] at hA5
  subst hA5
  have HB5 := Lib.hid hb5
  have HT5 := Lib.hid (fun hv : Bk w5 t 176 #[.pointer (some ⟨g, 0, none⟩), .int .i64 0] => tVolume_any hv)
  clear hcl5 hv5 hb5 B0
  go_wp2_with (first | (go_at_call 49; go_loud ((with_reducible refine (HC.out _ HB5.out).mono ?_); rintro er w6 ⟨rfl, hb6⟩; have HB6 := Lib.hid (HB5.out.trans (below_le HB5.out.size hb6)); clear hb6)) | fail)
  go_ret
  exact ⟨rfl, HB6.out⟩
end Go.Proofs.YtkdlofgfkfhofaaGreatDoor

/-
  maps.Keys and slices.Sorted at a map of topics; Topics of a state that has none.
-/
namespace Go.Proofs.YtkdlofgfkfhofaaGreatDoor
open Go.RowKit Go.Maps Go.Sort Go.Shelf

/-- slices.Sort's two contracts -/
theorem sorts_str (m : Nat) : AnyZ.SortsIn Tryz.prog Tryz.sorted199_ren Fence.wide m :=
  ⟨fun blk off cap ss W hH hblk hsz => callsIn_wide.2 (AnyM.slices_Sort_string Tryz.sort243 blk off cap ss W hH hblk hsz),
   fun p cap W => callsIn_wide.2 (AnyM.slices_Sort_string_none Tryz.sort243 p cap W)⟩
/-- maps.Keys: a function over one new block, which holds the map -/
theorem keys_any (mb : Option Nat) (W : World) : Calls Tryz.prog 200 #[.map mb] W fun e w' => e = .returned (.func (.func 244) #[] #[.pointer (some ⟨W.heap.size, 0, none⟩)]) ∧ w' = W.alloc (.cells #[.map mb] 212) :=
  callsIn_wide.1 (AnyZ.keys_in Tryz.keys200 Fence.wide 5 trivial rfl mb W)
set_option maxHeartbeats 1000000 in
/-- slices.Sorted at that -/
theorem sorted_any {H : Type} (b nn : Nat) (D0 : DataW H) (R : Value → Option (DataW H × List MemPlace)) (w : World) (hown : w.ownsMap Tryz.prog 9 R b nn D0) (hmax : Maps.size D0 ≤ maxLen) (hbytes : Maps.size D0 * 16 ≤ 140737488355328) :
    Calls Tryz.prog 199 #[.func (.func 244) #[] #[.pointer (some ⟨w.heap.size, 0, none⟩)]] (w.alloc (.cells #[.map (some b)] 212)) fun e w' => ∃ (v : Value) (ss : List (List UInt8)), e = .returned v ∧ ss.Perm (strKeys D0) ∧
      w'.ownsRow (w.alloc (.cells #[.map (some b)] 212)).heap.size 9 1 v ss.length ((ss.mergeSort (fun x y => decide (x ≤ y))).map encStr) ∧ Below (w.alloc (.cells #[.map (some b)] 212)).heap.size (w.alloc (.cells #[.map (some b)] 212)) w' := by
  have hbl := hown.lt
  have hseq : SeqGives Fence.wide 2 Tryz.prog 244 #[.pointer (some ⟨w.heap.size, 0, none⟩)] encStr (fun ss => ss.Perm (strKeys D0)) (Maps.size D0) (w.alloc (.cells #[.map (some b)] 212)) :=
    AnyZ.keys_gives (ρ := Tryz.keys200_ren) { Tryz.keys200 with } Fence.wide _ trivial rfl (by omega) w.heap.size b nn D0 _ (by simp) (by simp) (by
      obtain ⟨es, clock, hb, Ft, hs, hD⟩ := hown
      exact ⟨es, clock, (Below.heap_alloc _ _ b hbl).trans hb, Ft, hs, hD⟩)
  refine (callsIn_wide.1 (AnyZ.sorted_in Tryz.sorted199 Fence.wide 5 trivial trivial trivial trivial rfl (by omega) (sorts_str _) (enters_of Tryz.func243 (by kernel_rfl) rfl) 244 #[.pointer (some ⟨w.heap.size, 0, none⟩)] trivial (enters_of Tryz.func244 (by kernel_rfl) rfl) _ _ hmax hbytes _ hseq)).mono ?_
  rintro e w' ⟨v, ss, h1, h2, h3, _, h5⟩
  exact ⟨v, ss, h1, h2, h3, h5⟩

end Go.Proofs.YtkdlofgfkfhofaaGreatDoor

/-
  state.Topics of a state that has none.
-/
namespace Go.Proofs.YtkdlofgfkfhofaaGreatDoor
open Go.RowKit Go.Maps Go.Sort Go.Shelf

theorem sorted_none {w : World} {s tb gr : Nat} (h : StE w s tb gr) :
    Calls Tryz.prog 199 #[.func (.func 244) #[] #[.pointer (some ⟨w.heap.size, 0, none⟩)]] (w.alloc (.cells #[.map (some tb)] 212)) fun e w' => ∃ A c, e = .returned (.slice A 0 c) ∧ Below w.heap.size w w' := by
  have h1 := sorted_any tb 0 (.map []) rawElem w h.map (by simp [Maps.size]) (by simp [Maps.size])
  refine h1.mono ?_
  rintro e w' ⟨v, ss, rfl, hp, ho, hb⟩
  have hs : ss = [] := by
    have he : strKeys (.map [] : DataW Value) = [] := rfl
    rw [he] at hp
    exact List.perm_nil.1 hp
  subst hs
  have hb0 := below_new w (.cells #[.map (some tb)] 212)
  rcases ho.2 with ⟨e1, _⟩ | ⟨g, cap, cur, e1, _⟩
  · exact ⟨_, _, by rw [e1], hb0.trans (below_le hb0.size hb)⟩
  · exact ⟨_, _, by rw [e1]; rfl, hb0.trans (below_le hb0.size hb)⟩
set_option maxRecDepth 100000 in
set_option maxHeartbeats 1000000 in
theorem eTopics_any {w : World} {s tb gr : Nat} (h : StE w s tb gr) :
    Calls Tryz.prog 162 #[.pointer (some ⟨s, 0, none⟩)] w fun e w' => e = .returned (.slice none 0 0) ∧ Below w.heap.size w w' := by
  have c0 : w.cell? ⟨s, 0, none⟩ = some (.map (some tb)) := h.bk.cell 0
  have HKy := Lib.hid (keys_any (some tb) w)
  have HSo := Lib.hid (sorted_none h)
  clear h
  go_enter Tryz.func162, Tryz.ntmps162
  go_wp2_with (first | (go_at_call 200; go_loud (with_reducible refine HKy.out.mono ?_); rintro er w1 ⟨rfl, rfl⟩) | (go_at_call 199; go_loud (with_reducible refine HSo.out.mono ?_); go_loud (rintro er w2 ⟨An, cn, rfl, hbn⟩); have HBn := Lib.hid hbn; clear hbn) | fail)
  go_loopw [3, 13] (fun o i wr => i = .int .i64 0 ∧ o = .slice none 0 0 ∧ wr = w2) (fun _ _ _ => 0)
  case atStart => exact ⟨rfl, rfl, rfl⟩
  case round =>
    obtain ⟨rfl, rfl, rfl⟩ := hrel
    go_wp2_with fail
    go_ret
    exact ⟨rfl, HBn.out⟩
end Go.Proofs.YtkdlofgfkfhofaaGreatDoor
