/-
  entry: values.
-/
import Derived.Test.YtjodiieeocaipaaGreatDoorEFld
import Derived.Test.YtjodiieeocaipaaGreatDoorECame
import Derived.Deep.RegionLaw
namespace Go.Proofs.YtjodiieeocaipaaGreatDoor
open Go.RowKit
attribute [local go_sem ↓] ldB_eq

/-- bytes turned to a text -/
theorem conv_any {w : World} {A : Option Addr} {M c : Nat} {l : List UInt8} (h : RdB w A M c l) : (convert 54 9 (.slice A M c)).run Tryz.prog w = .ok (.string ⟨l.toArray⟩) w := by
  have hlen := h.len
  rcases A with _ | ad
  · obtain rfl := h.none_len
    obtain rfl : l = [] := List.eq_nil_of_length_eq_zero hlen
    rw [run_convert_bytes_string w 54 9 5 none 0 c Tryz.underlying54 Tryz.underlying5 Tryz.underlying9]
    rfl
  · subst hlen
    exact run_convert_bytes_back (P := Tryz.prog) w 54 9 5 ad c l Tryz.underlying54 Tryz.underlying5 Tryz.underlying9 (fun j hj => by
      obtain ⟨ad', x, e, _, hx, hc⟩ := h.get hj
      injection e with e
      subst e
      rw [hc]
      have := hx.out
      rw [List.getElem?_eq_getElem hj] at this
      injection this with this
      rw [this]
      rfl)
theorem info_v : (Tryz.prog.info? 150).map (fun i => (i.zero, i.size, i.bytes)) = some (some (.agg #[.int .i64 0, .string ⟨#[]⟩, .slice none 0 0]), 3, 48) := by kernel_rfl
/-- what values hands back -/
def ValR (e : Ent) (w' : World) (v : Value) : Prop := ∃ A n c ms, v = .slice A n c ∧ RdV w' A n c ms ∧ vsOf ms = valsE e
theorem ValR.ext {e : Ent} {w w' : World} {v : Value} (h : ValR e w v) (hb : Below w.heap.size w w') : ValR e w' v := by
  obtain ⟨A, n, c, ms, h1, h2, h3⟩ := h
  exact ⟨A, n, c, ms, h1, h2.ext hb, h3⟩
theorem plain_ok {ms : List MVal} {w : World} (h : ∀ m ∈ ms, m.v.l = [] ∧ m.A = none ∧ m.n = 0 ∧ m.c = 0) : ∀ m ∈ ms, m.ok w := fun m hm => by
  obtain ⟨h1, h2, h3, h4⟩ := h m hm
  unfold MVal.ok
  rw [h1, h2, h3, h4]
  exact RdT.nil w
theorem valR_bk {e : Ent} {w' : World} {g n : Nat} {t : TypeId} {cs : Array Value} (ms : List MVal) (hb : Bk w' g t cs) (hc : cs = (ms.flatMap MVal.cells).toArray) (hn : ms.length = n) (hn' : n ≤ 100) (hv : vsOf ms = valsE e) (hp : ∀ m ∈ ms, m.v.l = [] ∧ m.A = none ∧ m.n = 0 ∧ m.c = 0) :
    ValR e w' (.slice (some ⟨g, 0, none⟩) n n) :=
  ⟨_, n, n, ms, rfl, ⟨RdK.of_bk hb MVal.cells m3 ms hc n n hn (Nat.le_refl _) (by omega), plain_ok hp⟩, hv⟩
theorem valR_own {e : Ent} {w' : World} {B n c : Nat} {t : TypeId} {A : Option Addr} {xs : List Value} (ms : List MVal) (ho : w'.ownsRow B t 3 (.slice A n c) n xs) (hx : xs = ms.flatMap MVal.cells) (hv : vsOf ms = valsE e) (hp : ∀ m ∈ ms, m.v.l = [] ∧ m.A = none ∧ m.n = 0 ∧ m.c = 0) :
    ValR e w' (.slice A n c) := by
  subst hx
  exact ⟨A, n, c, ms, rfl, ⟨RdK.of_own MVal.cells m3 (by omega) ms ho, plain_ok hp⟩, hv⟩
theorem one_all {l : List Value} (h : l.all (·.oneCell') = true) : ∀ u ∈ l, u.oneCell' = true := fun u hu => List.all_eq_true.1 h u hu
theorem below_of_grown {w w' : World} (h : w.grownBy w' none) : Below w.heap.size w w' := ⟨h.os, h.tape, h.output, h.size, fun i hi => h.block i hi (by simp)⟩
def agE (e : Ent) (A : Option Addr) (n c : Nat) : Array Value := #[.int .i64 e.kind, .string e.topic, .string e.group, .int .i64 e.part, .int .i64 e.parts, .int .i64 e.first, .int .i64 e.off, .int .i64 e.bat.time, .int .i64 e.bat.prod, .int .i64 e.bat.seq, .slice A n c]
set_option maxRecDepth 100000 in
set_option maxHeartbeats 4000000 in
theorem values_any (k : Int) (topic group : ByteArray) (part parts first off time prod seq : Int) (vals : List ByteArray) (A : Option Addr) (n c : Nat) (w w0 : World) (B : Nat) (hr : RdT w A n c vals) (hb : Below B w0 w) (hB : B ≤ w.heap.size) :
    Calls Tryz.prog 43 #[.agg #[.int .i64 k, .string topic, .string group, .int .i64 part, .int .i64 parts, .int .i64 first, .int .i64 off, .int .i64 time, .int .i64 prod, .int .i64 seq, .slice A n c]] w
      fun e w' => ∃ v, e = .returned v ∧ ValR ⟨k, topic, group, part, parts, first, off, ⟨time, prod, seq, vals⟩⟩ w' v ∧ Below B w0 w' ∧ B ≤ w'.heap.size := by
  obtain ⟨ii, hi0, hz0, hs0, hb0⟩ := info_parts info_v
  have hk : k = 1 ∨ k = 2 ∨ k = 3 ∨ k = 4 ∨ k = 5 ∨ ((k == 1) = false ∧ (k == 2) = false ∧ (k == 3) = false ∧ (k == 4) = false ∧ (k == 5) = false) := by
    simp only [beq_eq_false_iff_ne]
    omega
  have hb1 := Lib.hid (hb.alloc hB (.cells #[.int .i64 k, .string topic, .string group, .int .i64 part, .int .i64 parts, .int .i64 first, .int .i64 off, .int .i64 time, .int .i64 prod, .int .i64 seq, .slice A n c] 34))
  have hr1 := Lib.hid (hr.ext (below_new w (.cells #[.int .i64 k, .string topic, .string group, .int .i64 part, .int .i64 parts, .int .i64 first, .int .i64 off, .int .i64 time, .int .i64 prod, .int .i64 seq, .slice A n c] 34)))
  have hbk := Lib.hid (Bk.made w 34 #[.int .i64 k, .string topic, .string group, .int .i64 part, .int .i64 parts, .int .i64 first, .int .i64 off, .int .i64 time, .int .i64 prod, .int .i64 seq, .slice A n c])
  have HBw := Lib.hid hB
  have HI := Lib.hid hi0
  have HZ := Lib.hid hz0
  have HS := Lib.hid hs0
  have HB := Lib.hid hb0
  clear hb hr hi0 hz0 hs0 hb0
  rcases hk with rfl | rfl | rfl | rfl | rfl | ⟨k1, k2, k3, k4, k5⟩
  · go_enter Tryz.func43, Tryz.ntmps43
    go_wp2
    go_ret
    have hs2 : B ≤ (w.alloc (.cells #[.int .i64 1, .string topic, .string group, .int .i64 part, .int .i64 parts, .int .i64 first, .int .i64 off, .int .i64 time, .int .i64 prod, .int .i64 seq, .slice A n c] 34)).heap.size := by simp; omega
    exact ⟨_, rfl, valR_bk [strM topic, numM parts, numM first] (Bk.made_at _ _ 150 _ (by simp)) rfl rfl (by omega) rfl (by simp [numM, strM, nV, sV]), hb1.out.alloc hs2 _, by simp; omega⟩
  · go_enter Tryz.func43, Tryz.ntmps43
    go_wp2
    go_ret
    have hs2 : B ≤ (w.alloc (.cells #[.int .i64 2, .string topic, .string group, .int .i64 part, .int .i64 parts, .int .i64 first, .int .i64 off, .int .i64 time, .int .i64 prod, .int .i64 seq, .slice A n c] 34)).heap.size := by simp; omega
    exact ⟨_, rfl, valR_bk [strM topic] (Bk.made_at _ _ 150 _ (by simp)) rfl rfl (by omega) rfl (by simp [strM, sV]), hb1.out.alloc hs2 _, by simp; omega⟩
  · go_enter Tryz.func43, Tryz.ntmps43
    go_wp2
    refine wp_cut (fun w' => Below B w0 w' ∧ B ≤ w'.heap.size ∧ RdT w' A n c vals ∧ Bk w' w.heap.size 34 #[.int .i64 3, .string topic, .string group, .int .i64 part, .int .i64 parts, .int .i64 first, .int .i64 off, .int .i64 time, .int .i64 prod, .int .i64 seq, .slice A n c]) ⟨hb1.out, by simp; omega, hr1.out, hbk.out⟩ ?_
    rintro w1 ⟨hB1, hs1, hr1', hbk1⟩
    have FS : Hid (∀ w', Below w1.heap.size w1 w' → (Below w1.heap.size w1 w' ∧ w'.cell? ⟨w.heap.size, 1, none⟩ = some (.string topic) ∧ w'.cell? ⟨w.heap.size, 3, none⟩ = some (.int .i64 part) ∧ (ldB (.pointer (some ⟨w.heap.size, 7, none⟩))).run Tryz.prog w' = .ok (.agg #[.int .i64 time, .int .i64 prod, .int .i64 seq, .slice A n c]) w')) := fun w' hb =>
      ⟨hb, ((hbk1.ext hb).cell 1).trans rfl, ((hbk1.ext hb).cell 3).trans rfl, ldB_at (b := ⟨time, prod, seq, vals⟩) (fun j u hu => by
        rw [(hbk1.ext hb).cell]
        match j, hu with
        | 0, hu => exact hu
        | 1, hu => exact hu
        | 2, hu => exact hu
        | 3, hu => exact hu
        | j + 4, hu => exact absurd (List.getElem?_eq_some_iff.1 hu).1 (by simp [Bat.cells]))⟩
    have r0 := below_drew1 (Below.refl w1.heap.size w1)
    have HP := Lib.hid (bPut_any ⟨time, prod, seq, vals⟩ A n c w1.drew (hr1'.ext r0) w1 w1.heap.size r0 r0.size)
    have HB1 := Lib.hid hB1
    clear hB1 hr1' hbk1 hb1 hr1 hbk
    have d1 := (FS.out _ r0).2.1
    have d3 := (FS.out _ r0).2.2.1
    have dB := (FS.out _ r0).2.2.2
    go_region_law (first | (go_simp; go_at_call 70; (with_reducible refine HP.out.mono ?_); rintro e w5 ⟨A5, M5, c5, rfl, ho5, hb5⟩; have hcv := conv_any ho5.rd; have g1 := (FS.out _ hb5).2.1; have g3 := (FS.out _ hb5).2.2.1; have gB := (FS.out _ hb5).2.2.2) | fail)
    all_goals
      go_wp2_with fail
      go_ret
      exact ⟨_, rfl, valR_bk [strM topic, numM part, strM (batS ⟨time, prod, seq, vals⟩)] (Bk.made w5 150 _) rfl rfl (by omega) rfl (by simp [numM, strM, nV, sV]), HB1.out.trans (below_le hs1 (hb5.alloc hb5.size _)), by have := hb5.size; simp; omega⟩
  · have hs2 : B ≤ (w.alloc (.cells #[.int .i64 4, .string topic, .string group, .int .i64 part, .int .i64 parts, .int .i64 first, .int .i64 off, .int .i64 time, .int .i64 prod, .int .i64 seq, .slice A n c] 34)).heap.size := by simp; omega
    have hx := Lib.hid (hb1.out.alloc hs2 (.cells #[.int .i64 0, .string group, .slice none 0 0] 150))
    have hbx := Lib.hid (hbk.out.alloc (.cells #[.int .i64 0, .string group, .slice none 0 0] 150))
    clear hs2
    go_enter Tryz.func43, Tryz.ntmps43
    go_wp2_with (first | (at_builtin; refine wpList_append_gen rfl (.tmp 42) (.tmp 46) 99 rfl 150 ii _ 3 48 Tryz.underlying99 HI.out HZ.out HS.out HB.out rfl (by omega) B w0 _ 0 [] rfl (World.ownsRow_nil _ _ _ _) ⟨w.heap.size + 1, 0, none⟩ 1 1 [.int .i64 0, .string group, .slice none 0 0] rfl rfl (cells_newm _ _ (0, 0) _ _ rfl _ (by simp)) (one_all rfl) (by unfold maxLen; omega) (by omega) hx.out (by simp; omega) ?_; intro A5 c5 w5 ho5 hg5 hob5 hb5 hs5; have hbk5 := Lib.hid (hbx.out.ext (below_of_grown hg5.out)); have c1 : w5.cell? ⟨w.heap.size, 1, none⟩ = some (.string topic) := hbk5.out.cell 1; have c3 : w5.cell? ⟨w.heap.size, 3, none⟩ = some (.int .i64 part) := hbk5.out.cell 3; have c6 : w5.cell? ⟨w.heap.size, 6, none⟩ = some (.int .i64 off) := hbk5.out.cell 6) | (at_builtin; refine wpList_append_gen rfl (.tmp 48) (.tmp 58) 99 rfl 150 ii _ 3 48 Tryz.underlying99 HI.out HZ.out HS.out HB.out rfl (by omega) B w0 _ 1 [.int .i64 0, .string group, .slice none 0 0] rfl (World.ownsRow.alloc ho5.out _) ⟨w5.heap.size, 0, none⟩ 3 3 [.int .i64 0, .string topic, .slice none 0 0, .int .i64 part, .string ⟨#[]⟩, .slice none 0 0, .int .i64 off, .string ⟨#[]⟩, .slice none 0 0] rfl rfl (cells_newm _ _ (0, 0) _ _ rfl _ (by simp)) (one_all rfl) (by unfold maxLen; omega) (by omega) (hb5.alloc hs5 _) (by simp; omega) ?_; intro A6 c6' w6 ho6 hg6 hob6 hb6 hs6) | fail)
    go_ret
    exact ⟨_, rfl, valR_own [strM group, strM topic, numM part, numM off] ho6.out rfl rfl (by simp [numM, strM, nV, sV]), hb6, hs6⟩
  · have hs2 : B ≤ (w.alloc (.cells #[.int .i64 5, .string topic, .string group, .int .i64 part, .int .i64 parts, .int .i64 first, .int .i64 off, .int .i64 time, .int .i64 prod, .int .i64 seq, .slice A n c] 34)).heap.size := by simp; omega
    have hx := Lib.hid (hb1.out.alloc hs2 (.cells #[.int .i64 0, .string topic, .slice none 0 0, .int .i64 part, .string ⟨#[]⟩, .slice none 0 0, .int .i64 off, .string ⟨#[]⟩, .slice none 0 0] 150))
    clear hs2
    go_enter Tryz.func43, Tryz.ntmps43
    go_wp2_with (first | (at_builtin; refine wpList_append_gen rfl (.tmp 48) (.tmp 58) 99 rfl 150 ii _ 3 48 Tryz.underlying99 HI.out HZ.out HS.out HB.out rfl (by omega) B w0 _ 0 [] rfl (World.ownsRow_nil _ _ _ _) ⟨w.heap.size + 1, 0, none⟩ 3 3 [.int .i64 0, .string topic, .slice none 0 0, .int .i64 part, .string ⟨#[]⟩, .slice none 0 0, .int .i64 off, .string ⟨#[]⟩, .slice none 0 0] rfl rfl (cells_newm _ _ (0, 0) _ _ rfl _ (by simp)) (one_all rfl) (by unfold maxLen; omega) (by omega) hx.out (by simp; omega) ?_; intro A6 c6 w6 ho6 hg6 hob6 hb6 hs6) | fail)
    go_ret
    exact ⟨_, rfl, valR_own [strM topic, numM part, numM off] ho6.out rfl rfl (by simp [numM, strM, nV, sV]), hb6, hs6⟩
  · go_enter Tryz.func43, Tryz.ntmps43
    go_wp2
    go_ret
    have n1 : k ≠ 1 := by simpa using k1
    have n2 : k ≠ 2 := by simpa using k2
    have n3 : k ≠ 3 := by simpa using k3
    have n4 : k ≠ 4 := by simpa using k4
    have n5 : k ≠ 5 := by simpa using k5
    have e : valsE ⟨k, topic, group, part, parts, first, off, ⟨time, prod, seq, vals⟩⟩ = [] := by unfold valsE; rw [if_neg n1, if_neg n2, if_neg n3, if_neg n4, if_neg n5]
    exact ⟨_, rfl, ⟨none, 0, 0, [], rfl, ⟨RdK.nil _ _, fun m hm => absurd hm List.not_mem_nil⟩, e.symm⟩, hb1.out, by simp; omega⟩
end Go.Proofs.YtjodiieeocaipaaGreatDoor
