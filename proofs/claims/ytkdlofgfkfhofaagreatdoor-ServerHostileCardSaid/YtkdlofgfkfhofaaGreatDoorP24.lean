import Derived.Test.YtkdlofgfkfhofaaGreatDoorP01
import Derived.Test.YtkdlofgfkfhofaaGreatDoorP20
import Derived.SliceStrings
import Derived.Test.YtkdlofgfkfhofaaGreatDoorP23
import Derived.Deep.RegionLaw
/-
  An entry that came in as an argument.
-/
namespace Go.Proofs.YtkdlofgfkfhofaaGreatDoor
open Go.ChangeShapes Go.WideShapes Go.ChangeAt Go.RowKit
open Go.ChangeMaps (open_string)

theorem one_of {α : Type} {l : List α} {k : Nat} {x : α} (h : (l.drop k).take 1 = [x]) : l[k]? = some x := by
  have h0 : ((l.drop k).take 1)[0]? = some x := by rw [h]; rfl
  rw [List.getElem?_take] at h0
  simp at h0
  exact h0
theorem cells_int' : Tryz.prog.cellsOf 3 = 1 := by kernel_rfl
theorem cells_str' : Tryz.prog.cellsOf 9 = 1 := by kernel_rfl
theorem cells_strs' : Tryz.prog.cellsOf 28 = 1 := by kernel_rfl
theorem cells_bat : Tryz.prog.cellsOf 30 = 4 := by kernel_rfl
theorem cells_ent : Tryz.prog.cellsOf 121 = 11 := by kernel_rfl
def fitI (z : Int) : Prop := -9223372036854775808 ≤ z ∧ z ≤ 9223372036854775807
def Ent.cells (e : Ent) (A : Option Addr) (n c : Nat) : List Value := [.int .i64 e.kind, .string e.topic, .string e.group, .int .i64 e.part, .int .i64 e.parts, .int .i64 e.first, .int .i64 e.off, .int .i64 e.bat.time, .int .i64 e.bat.prod, .int .i64 e.bat.seq, .slice A n c]
structure Ent.ok (q : Ent) : Prop where
  kind : fitI q.kind
  part : fitI q.part
  parts : fitI q.parts
  first : fitI q.first
  off : fitI q.off
  time : fitI q.bat.time
  prod : fitI q.bat.prod
  seq : fitI q.bat.seq
  topic : q.topic.size ≤ maxLen
  group : q.group.size ≤ maxLen
  vals : ∀ s ∈ q.bat.vals, s.size ≤ maxLen
set_option maxRecDepth 100000 in
theorem texts_of {H : Type} {enc : TypeId × Value → H} {W : World} {fuel : Nat} {u : Value} {x : DataW H × List MemPlace} (h : DataW.trod enc Tryz.prog W 0 (fun _ => true) true fuel 28 [u] = some x) : ∃ A n c l, u = .slice A n c ∧ RdT W A n c l ∧ ∀ s ∈ l, s.size ≤ maxLen := by
  rcases open_strings Tryz.underlying28 Tryz.underlying9 cells_str' h with ⟨hcs, _⟩ | ⟨a, len, cap, ss, hcs, _, hl, hm, hz, _, hcell, hsz⟩
  · injection hcs with h1 _
    exact ⟨none, 0, 0, [], h1, RdT.nil W, fun s hs => absurd hs List.not_mem_nil⟩
  · injection hcs with h1 _
    have hz : ss.length = cap := by simpa using hz
    refine ⟨some a, len, cap, ss.take len, h1, ⟨by rw [List.length_map, List.length_take]; omega, hl, by unfold maxLen at hm; exact hm, fun k v hk => ?_⟩, fun s hs => hsz s (List.mem_of_mem_take hs)⟩
    have hkl : k < len := by
      have := (List.getElem?_eq_some_iff.1 hk).1
      rw [List.length_map, List.length_take] at this
      omega
    have hc := hcell k (by omega)
    refine ⟨a, rfl, ?_, ?_⟩
    · have := cell_lt hc
      rwa [add_block] at this
    · have hks : k < ss.length := by omega
      rw [hc, ← hk]
      simp [hkl, hks]
set_option maxRecDepth 100000 in
theorem batch_of {H : Type} {enc : TypeId × Value → H} {W : World} {fuel : Nat} {cs : List Value} {x : DataW H × List MemPlace} (hl : cs.length = 4) (hf : DataW.trod enc Tryz.prog W 0 (fun _ => true) true fuel 30 cs = some x) :
    ∃ t p s A n c l, cs = [.int .i64 t, .int .i64 p, .int .i64 s, .slice A n c] ∧ RdT W A n c l ∧ fitI t ∧ fitI p ∧ fitI s ∧ ∀ s ∈ l, s.size ≤ maxLen := by
  obtain ⟨xs, n, _, _, _, hxs, hfi⟩ := DataW.trod_struct Tryz.underlying30 hf
  have hx6 : xs.length = 4 := hxs
  have num : ∀ (i : Nat) (f : Field), (match Tryz.prog.underlying 30 with | some (.struct fs) => fs | _ => #[])[i]? = some f → f.type = 3 → f.offset = i → i < 4 → ∃ z : Int, cs[i]? = some (.int .i64 z) ∧ fitI z := by
    intro i f hf1 ht ho hi
    have h1 := hfi i f (by rw [Tryz.underlying30] at hf1; exact hf1)
    rw [ht, ho, cells_int', List.getElem?_eq_getElem (by omega)] at h1
    obtain ⟨z, hz, _, hw⟩ := DataW.trod_int Tryz.underlying3 h1
    exact ⟨z, one_of hz, wf_i64 hw⟩
  obtain ⟨a, ha, a1⟩ := num 0 _ (by rw [Tryz.underlying30]; rfl) rfl rfl (by omega)
  obtain ⟨b, hb, b1⟩ := num 1 _ (by rw [Tryz.underlying30]; rfl) rfl rfl (by omega)
  obtain ⟨c, hc, c1⟩ := num 2 _ (by rw [Tryz.underlying30]; rfl) rfl rfl (by omega)
  have sl : ∀ (i : Nat) (f : Field), (match Tryz.prog.underlying 30 with | some (.struct fs) => fs | _ => #[])[i]? = some f → f.type = 28 → f.offset = i → i < 4 → ∃ A n c l, cs[i]? = some (.slice A n c) ∧ RdT W A n c l ∧ ∀ s ∈ l, s.size ≤ maxLen := by
    intro i f hf1 ht ho hi
    have h1 := hfi i f (by rw [Tryz.underlying30] at hf1; exact hf1)
    rw [ht, ho, cells_strs', List.getElem?_eq_getElem (by omega)] at h1
    have hi' : i < cs.length := by omega
    have e1 : (cs.drop i).take 1 = [cs[i]] := by
      rw [List.drop_eq_getElem_cons hi']
      rfl
    rw [e1] at h1
    obtain ⟨A, n, c, l, hu, h2, h3⟩ := texts_of h1
    exact ⟨A, n, c, l, by rw [List.getElem?_eq_getElem hi', hu], h2, h3⟩
  obtain ⟨A, n', c', l, hd, d1, d2⟩ := sl 3 _ (by rw [Tryz.underlying30]; rfl) rfl rfl (by omega)
  refine ⟨a, b, c, A, n', c', l, ?_, d1, a1, b1, c1, d2⟩
  obtain ⟨x0, x1, x2, x3, rfl⟩ : ∃ x0 x1 x2 x3, cs = [x0, x1, x2, x3] := by
    match cs, hl with
    | [x0, x1, x2, x3], _ => exact ⟨x0, x1, x2, x3, rfl⟩
  simp at ha hb hc hd
  subst ha hb hc hd
  rfl
set_option maxRecDepth 100000 in
theorem Came.entry {H : Type} {enc : TypeId × Value → H} {W : World} {base : Nat} {v : Value} {d : DataW H} {p : List MemPlace} (h : Came enc W base 121 v d p) :
    ∃ (e : Ent) (A : Option Addr) (n c : Nat), v = .agg (e.cells A n c).toArray ∧ RdT W A n c e.bat.vals ∧ e.ok := by
  obtain ⟨cs, rfl, hsz⟩ := okWide_struct Tryz.underlying121 h.1
  rw [cells_ent] at hsz
  obtain ⟨fuel, hf⟩ := h.2
  obtain ⟨xs, n, _, _, _, hxs, hfi⟩ := DataW.trod_struct Tryz.underlying121 hf
  have hx8 : xs.length = 8 := hxs
  have num : ∀ (i : Nat) (f : Field), (match Tryz.prog.underlying 121 with | some (.struct fs) => fs | _ => #[])[i]? = some f → f.type = 3 → f.offset = i → i < 8 → ∃ z : Int, cs.toList[i]? = some (.int .i64 z) ∧ fitI z := by
    intro i f hf1 ht ho hi
    have h1 := hfi i f (by rw [Tryz.underlying121] at hf1; exact hf1)
    rw [ht, ho, cells_int', List.getElem?_eq_getElem (by omega)] at h1
    obtain ⟨z, hz, _, hw⟩ := DataW.trod_int Tryz.underlying3 h1
    exact ⟨z, one_of hz, wf_i64 hw⟩
  have str : ∀ (i : Nat) (f : Field), (match Tryz.prog.underlying 121 with | some (.struct fs) => fs | _ => #[])[i]? = some f → f.type = 9 → f.offset = i → i < 8 → ∃ s : ByteArray, cs.toList[i]? = some (.string s) ∧ s.size ≤ maxLen := by
    intro i f hf1 ht ho hi
    have h1 := hfi i f (by rw [Tryz.underlying121] at hf1; exact hf1)
    rw [ht, ho, cells_str', List.getElem?_eq_getElem (by omega)] at h1
    obtain ⟨s, hz, _, hw⟩ := DataW.trod_string Tryz.underlying9 h1
    exact ⟨s, one_of hz, hw⟩
  obtain ⟨a0, h0, b0⟩ := num 0 _ (by rw [Tryz.underlying121]; rfl) rfl rfl (by omega)
  obtain ⟨a1, h1, b1⟩ := str 1 _ (by rw [Tryz.underlying121]; rfl) rfl rfl (by omega)
  obtain ⟨a2, h2, b2⟩ := str 2 _ (by rw [Tryz.underlying121]; rfl) rfl rfl (by omega)
  obtain ⟨a3, h3, b3⟩ := num 3 _ (by rw [Tryz.underlying121]; rfl) rfl rfl (by omega)
  obtain ⟨a4, h4, b4⟩ := num 4 _ (by rw [Tryz.underlying121]; rfl) rfl rfl (by omega)
  obtain ⟨a5, h5, b5⟩ := num 5 _ (by rw [Tryz.underlying121]; rfl) rfl rfl (by omega)
  obtain ⟨a6, h6, b6⟩ := num 6 _ (by rw [Tryz.underlying121]; rfl) rfl rfl (by omega)
  have bt : ∀ (f : Field), (match Tryz.prog.underlying 121 with | some (.struct fs) => fs | _ => #[])[7]? = some f → f.type = 30 → f.offset = 7 → ∃ t p s A n c l, (cs.toList.drop 7).take 4 = [.int .i64 t, .int .i64 p, .int .i64 s, .slice A n c] ∧ RdT W A n c l ∧ fitI t ∧ fitI p ∧ fitI s ∧ ∀ s ∈ l, s.size ≤ maxLen := by
    intro f hf1 ht ho
    have h1 := hfi 7 f (by rw [Tryz.underlying121] at hf1; exact hf1)
    rw [ht, ho, cells_bat, List.getElem?_eq_getElem (by omega)] at h1
    exact batch_of (by simp [hsz]) h1
  obtain ⟨t, q, s, A, n', c', l, h7, b7, b8, b9, b10, b11⟩ := bt _ (by rw [Tryz.underlying121]; rfl) rfl rfl
  refine ⟨⟨a0, a1, a2, a3, a4, a5, a6, ⟨t, q, s, l⟩⟩, A, n', c', ?_, b7, ⟨b0, b3, b4, b5, b6, b8, b9, b10, b1, b2, b11⟩⟩
  congr 1
  apply Array.ext'
  have hlen : cs.toList.length = 11 := by simp [hsz]
  generalize cs.toList = L at h0 h1 h2 h3 h4 h5 h6 h7 hlen
  obtain ⟨x0, x1, x2, x3, x4, x5, x6, x7, x8, x9, x10, rfl⟩ : ∃ x0 x1 x2 x3 x4 x5 x6 x7 x8 x9 x10, L = [x0, x1, x2, x3, x4, x5, x6, x7, x8, x9, x10] := by
    match L, hlen with
    | [x0, x1, x2, x3, x4, x5, x6, x7, x8, x9, x10], _ => exact ⟨x0, x1, x2, x3, x4, x5, x6, x7, x8, x9, x10, rfl⟩
  simp at h0 h1 h2 h3 h4 h5 h6 h7
  obtain ⟨rfl, rfl, rfl, rfl⟩ := h7
  subst h0 h1 h2 h3 h4 h5 h6
  rfl
end Go.Proofs.YtkdlofgfkfhofaaGreatDoor

/-
  entry: values.
-/
namespace Go.Proofs.YtkdlofgfkfhofaaGreatDoor
open Go.RowKit
attribute [local go_sem ↓] ldB_eq

/-- bytes turned to a text -/
theorem conv_any {w : World} {A : Option Addr} {M c : Nat} {l : List UInt8} (h : RdB w A M c l) : (convert 26 9 (.slice A M c)).run Tryz.prog w = .ok (.string ⟨l.toArray⟩) w := by
  have hlen := h.len
  rcases A with _ | ad
  · obtain rfl := h.none_len
    obtain rfl : l = [] := List.eq_nil_of_length_eq_zero hlen
    rw [run_convert_bytes_string w 26 9 5 none 0 c Tryz.underlying26 Tryz.underlying5 Tryz.underlying9]
    rfl
  · subst hlen
    exact run_convert_bytes_back (P := Tryz.prog) w 26 9 5 ad c l Tryz.underlying26 Tryz.underlying5 Tryz.underlying9 (fun j hj => by
      obtain ⟨ad', x, e, _, hx, hc⟩ := h.get hj
      injection e with e
      subst e
      rw [hc]
      have := hx.out
      rw [List.getElem?_eq_getElem hj] at this
      injection this with this
      rw [this]
      rfl)
theorem info_v : (Tryz.prog.info? 198).map (fun i => (i.zero, i.size, i.bytes)) = some (some (.agg #[.int .i64 0, .string ⟨#[]⟩, .slice none 0 0]), 3, 48) := by kernel_rfl
/-- what values hands back -/
def ValR (e : Ent) (w' : World) (v : Value) : Prop := ∃ A n c ms, v = .slice A n c ∧ RdV w' A n c ms ∧ vsOf ms = valsE e
theorem ValR.ext {e : Ent} {w w' : World} {v : Value} (h : ValR e w v) (hb : Below w.heap.size w w') : ValR e w' v := by
  obtain ⟨A, n, c, ms, h1, h2, h3⟩ := h
  exact ⟨A, n, c, ms, h1, h2.ext hb, h3⟩
theorem plain_ok {ms : List MVal} {w : World} (h : ∀ m ∈ ms, m.v.l = [] ∧ m.A = none ∧ m.n = 0 ∧ m.c = 0) : ∀ m ∈ ms, m.ok w := fun m hm => by
  obtain ⟨h1, h2, h3, h4⟩ := h m hm
  unfold MVal.ok
  rw [h1, h2, h3, h4]
  exact RdT.nil w
theorem valR_bk {e : Ent} {w' : World} {g n : Nat} {t : TypeId} {cs : Array Value} (ms : List MVal) (hb : Bk w' g t cs) (hc : cs = (ms.flatMap MVal.cells).toArray) (hn : ms.length = n) (hn' : n ≤ 100) (hv : vsOf ms = valsE e) (hp : ∀ m ∈ ms, m.v.l = [] ∧ m.A = none ∧ m.n = 0 ∧ m.c = 0) :
    ValR e w' (.slice (some ⟨g, 0, none⟩) n n) :=
  ⟨_, n, n, ms, rfl, ⟨RdK.of_bk hb MVal.cells m3 ms hc n n hn (Nat.le_refl _) (by omega), plain_ok hp⟩, hv⟩
theorem valR_own {e : Ent} {w' : World} {B n c : Nat} {t : TypeId} {A : Option Addr} {xs : List Value} (ms : List MVal) (ho : w'.ownsRow B t 3 (.slice A n c) n xs) (hx : xs = ms.flatMap MVal.cells) (hv : vsOf ms = valsE e) (hp : ∀ m ∈ ms, m.v.l = [] ∧ m.A = none ∧ m.n = 0 ∧ m.c = 0) :
    ValR e w' (.slice A n c) := by
  subst hx
  exact ⟨A, n, c, ms, rfl, ⟨RdK.of_own MVal.cells m3 (by omega) ms ho, plain_ok hp⟩, hv⟩
theorem one_all {l : List Value} (h : l.all (·.oneCell') = true) : ∀ u ∈ l, u.oneCell' = true := fun u hu => List.all_eq_true.1 h u hu
theorem below_of_grown {w w' : World} (h : w.grownBy w' none) : Below w.heap.size w w' := ⟨h.os, h.tape, h.output, h.size, fun i hi => h.block i hi (by simp)⟩
def agE (e : Ent) (A : Option Addr) (n c : Nat) : Array Value := #[.int .i64 e.kind, .string e.topic, .string e.group, .int .i64 e.part, .int .i64 e.parts, .int .i64 e.first, .int .i64 e.off, .int .i64 e.bat.time, .int .i64 e.bat.prod, .int .i64 e.bat.seq, .slice A n c]
set_option maxRecDepth 100000 in
set_option maxHeartbeats 4000000 in
theorem values_any (k : Int) (topic group : ByteArray) (part parts first off time prod seq : Int) (vals : List ByteArray) (A : Option Addr) (n c : Nat) (w w0 : World) (B : Nat) (hr : RdT w A n c vals) (hb : Below B w0 w) (hB : B ≤ w.heap.size) :
    Calls Tryz.prog 101 #[.agg #[.int .i64 k, .string topic, .string group, .int .i64 part, .int .i64 parts, .int .i64 first, .int .i64 off, .int .i64 time, .int .i64 prod, .int .i64 seq, .slice A n c]] w
      fun e w' => ∃ v, e = .returned v ∧ ValR ⟨k, topic, group, part, parts, first, off, ⟨time, prod, seq, vals⟩⟩ w' v ∧ Below B w0 w' ∧ B ≤ w'.heap.size := by
  obtain ⟨ii, hi0, hz0, hs0, hb0⟩ := info_parts info_v
  have hk : k = 1 ∨ k = 2 ∨ k = 3 ∨ k = 4 ∨ k = 5 ∨ ((k == 1) = false ∧ (k == 2) = false ∧ (k == 3) = false ∧ (k == 4) = false ∧ (k == 5) = false) := by
    simp only [beq_eq_false_iff_ne]
    omega
  have hb1 := Lib.hid (hb.alloc hB (.cells #[.int .i64 k, .string topic, .string group, .int .i64 part, .int .i64 parts, .int .i64 first, .int .i64 off, .int .i64 time, .int .i64 prod, .int .i64 seq, .slice A n c] 121))
  have hr1 := Lib.hid (hr.ext (below_new w (.cells #[.int .i64 k, .string topic, .string group, .int .i64 part, .int .i64 parts, .int .i64 first, .int .i64 off, .int .i64 time, .int .i64 prod, .int .i64 seq, .slice A n c] 121)))
  have hbk := Lib.hid (Bk.made w 121 #[.int .i64 k, .string topic, .string group, .int .i64 part, .int .i64 parts, .int .i64 first, .int .i64 off, .int .i64 time, .int .i64 prod, .int .i64 seq, .slice A n c])
  have HBw := Lib.hid hB
  have HI := Lib.hid hi0
  have HZ := Lib.hid hz0
  have HS := Lib.hid hs0
  have HB := Lib.hid hb0
  clear hb hr hi0 hz0 hs0 hb0
  rcases hk with rfl | rfl | rfl | rfl | rfl | ⟨k1, k2, k3, k4, k5⟩
  · go_enter Tryz.func101, Tryz.ntmps101
    go_wp2
    go_ret
    have hs2 : B ≤ (w.alloc (.cells #[.int .i64 1, .string topic, .string group, .int .i64 part, .int .i64 parts, .int .i64 first, .int .i64 off, .int .i64 time, .int .i64 prod, .int .i64 seq, .slice A n c] 121)).heap.size := by simp; omega
    exact ⟨_, rfl, valR_bk [strM topic, numM parts, numM first] (Bk.made_at _ _ 198 _ (by simp)) rfl rfl (by omega) rfl (by simp [numM, strM, nV, sV]), hb1.out.alloc hs2 _, by simp; omega⟩
  · go_enter Tryz.func101, Tryz.ntmps101
    go_wp2
    go_ret
    have hs2 : B ≤ (w.alloc (.cells #[.int .i64 2, .string topic, .string group, .int .i64 part, .int .i64 parts, .int .i64 first, .int .i64 off, .int .i64 time, .int .i64 prod, .int .i64 seq, .slice A n c] 121)).heap.size := by simp; omega
    exact ⟨_, rfl, valR_bk [strM topic] (Bk.made_at _ _ 198 _ (by simp)) rfl rfl (by omega) rfl (by simp [strM, sV]), hb1.out.alloc hs2 _, by simp; omega⟩
  · go_enter Tryz.func101, Tryz.ntmps101
    go_wp2
    refine wp_cut (fun w' => Below B w0 w' ∧ B ≤ w'.heap.size ∧ RdT w' A n c vals ∧ Bk w' w.heap.size 121 #[.int .i64 3, .string topic, .string group, .int .i64 part, .int .i64 parts, .int .i64 first, .int .i64 off, .int .i64 time, .int .i64 prod, .int .i64 seq, .slice A n c]) ⟨hb1.out, by simp; omega, hr1.out, hbk.out⟩ ?_
    rintro w1 ⟨hB1, hs1, hr1', hbk1⟩
    have FS : Hid (∀ w', Below w1.heap.size w1 w' → (Below w1.heap.size w1 w' ∧ w'.cell? ⟨w.heap.size, 1, none⟩ = some (.string topic) ∧ w'.cell? ⟨w.heap.size, 3, none⟩ = some (.int .i64 part) ∧ (ldB (.pointer (some ⟨w.heap.size, 7, none⟩))).run Tryz.prog w' = .ok (.agg #[.int .i64 time, .int .i64 prod, .int .i64 seq, .slice A n c]) w')) := fun w' hb =>
      ⟨hb, ((hbk1.ext hb).cell 1).trans rfl, ((hbk1.ext hb).cell 3).trans rfl, ldB_at (b := ⟨time, prod, seq, vals⟩) (fun j u hu => by
        rw [(hbk1.ext hb).cell]
        match j, hu with
        | 0, hu => exact hu
        | 1, hu => exact hu
        | 2, hu => exact hu
        | 3, hu => exact hu
        | j + 4, hu => exact absurd (List.getElem?_eq_some_iff.1 hu).1 (by simp [Bat.cells]))⟩
    have r0 := below_drew1 (Below.refl w1.heap.size w1)
    have HP := Lib.hid (bPut_any ⟨time, prod, seq, vals⟩ A n c w1.drew (hr1'.ext r0) w1 w1.heap.size r0 r0.size)
    have HB1 := Lib.hid hB1
    clear hB1 hr1' hbk1 hb1 hr1 hbk
    have d1 := (FS.out _ r0).2.1
    have d3 := (FS.out _ r0).2.2.1
    have dB := (FS.out _ r0).2.2.2
    go_region_law (first | (go_simp; go_at_call 153; (with_reducible refine HP.out.mono ?_); rintro e w5 ⟨A5, M5, c5, rfl, ho5, hb5⟩; have hcv := conv_any ho5.rd; have g1 := (FS.out _ hb5).2.1; have g3 := (FS.out _ hb5).2.2.1; have gB := (FS.out _ hb5).2.2.2) | fail)
    all_goals
      go_wp2_with fail
      go_ret
      exact ⟨_, rfl, valR_bk [strM topic, numM part, strM (batS ⟨time, prod, seq, vals⟩)] (Bk.made w5 198 _) rfl rfl (by omega) rfl (by simp [numM, strM, nV, sV]), HB1.out.trans (below_le hs1 (hb5.alloc hb5.size _)), by have := hb5.size; simp; omega⟩
  · have hs2 : B ≤ (w.alloc (.cells #[.int .i64 4, .string topic, .string group, .int .i64 part, .int .i64 parts, .int .i64 first, .int .i64 off, .int .i64 time, .int .i64 prod, .int .i64 seq, .slice A n c] 121)).heap.size := by simp; omega
    have hx := Lib.hid (hb1.out.alloc hs2 (.cells #[.int .i64 0, .string group, .slice none 0 0] 198))
    have hbx := Lib.hid (hbk.out.alloc (.cells #[.int .i64 0, .string group, .slice none 0 0] 198))
    clear hs2
    go_enter Tryz.func101, Tryz.ntmps101
    go_wp2_with (first | (at_builtin; refine wpList_append_gen rfl (.tmp 42) (.tmp 46) 128 rfl 198 ii _ 3 48 Tryz.underlying128 HI.out HZ.out HS.out HB.out rfl (by omega) B w0 _ 0 [] rfl (World.ownsRow_nil _ _ _ _) ⟨w.heap.size + 1, 0, none⟩ 1 1 [.int .i64 0, .string group, .slice none 0 0] rfl rfl (cells_newm _ _ (0, 0) _ _ rfl _ (by simp)) (one_all rfl) (by unfold maxLen; omega) (by omega) hx.out (by simp; omega) ?_; intro A5 c5 w5 ho5 hg5 hob5 hb5 hs5; have hbk5 := Lib.hid (hbx.out.ext (below_of_grown hg5.out)); have c1 : w5.cell? ⟨w.heap.size, 1, none⟩ = some (.string topic) := hbk5.out.cell 1; have c3 : w5.cell? ⟨w.heap.size, 3, none⟩ = some (.int .i64 part) := hbk5.out.cell 3; have c6 : w5.cell? ⟨w.heap.size, 6, none⟩ = some (.int .i64 off) := hbk5.out.cell 6) | (at_builtin; refine wpList_append_gen rfl (.tmp 48) (.tmp 58) 128 rfl 198 ii _ 3 48 Tryz.underlying128 HI.out HZ.out HS.out HB.out rfl (by omega) B w0 _ 1 [.int .i64 0, .string group, .slice none 0 0] rfl (World.ownsRow.alloc ho5.out _) ⟨w5.heap.size, 0, none⟩ 3 3 [.int .i64 0, .string topic, .slice none 0 0, .int .i64 part, .string ⟨#[]⟩, .slice none 0 0, .int .i64 off, .string ⟨#[]⟩, .slice none 0 0] rfl rfl (cells_newm _ _ (0, 0) _ _ rfl _ (by simp)) (one_all rfl) (by unfold maxLen; omega) (by omega) (hb5.alloc hs5 _) (by simp; omega) ?_; intro A6 c6' w6 ho6 hg6 hob6 hb6 hs6) | fail)
    go_ret
    exact ⟨_, rfl, valR_own [strM group, strM topic, numM part, numM off] ho6.out rfl rfl (by simp [numM, strM, nV, sV]), hb6, hs6⟩
  · have hs2 : B ≤ (w.alloc (.cells #[.int .i64 5, .string topic, .string group, .int .i64 part, .int .i64 parts, .int .i64 first, .int .i64 off, .int .i64 time, .int .i64 prod, .int .i64 seq, .slice A n c] 121)).heap.size := by simp; omega
    have hx := Lib.hid (hb1.out.alloc hs2 (.cells #[.int .i64 0, .string topic, .slice none 0 0, .int .i64 part, .string ⟨#[]⟩, .slice none 0 0, .int .i64 off, .string ⟨#[]⟩, .slice none 0 0] 198))
    clear hs2
    go_enter Tryz.func101, Tryz.ntmps101
    go_wp2_with (first | (at_builtin; refine wpList_append_gen rfl (.tmp 48) (.tmp 58) 128 rfl 198 ii _ 3 48 Tryz.underlying128 HI.out HZ.out HS.out HB.out rfl (by omega) B w0 _ 0 [] rfl (World.ownsRow_nil _ _ _ _) ⟨w.heap.size + 1, 0, none⟩ 3 3 [.int .i64 0, .string topic, .slice none 0 0, .int .i64 part, .string ⟨#[]⟩, .slice none 0 0, .int .i64 off, .string ⟨#[]⟩, .slice none 0 0] rfl rfl (cells_newm _ _ (0, 0) _ _ rfl _ (by simp)) (one_all rfl) (by unfold maxLen; omega) (by omega) hx.out (by simp; omega) ?_; intro A6 c6 w6 ho6 hg6 hob6 hb6 hs6) | fail)
    go_ret
    exact ⟨_, rfl, valR_own [strM topic, numM part, numM off] ho6.out rfl rfl (by simp [numM, strM, nV, sV]), hb6, hs6⟩
  · go_enter Tryz.func101, Tryz.ntmps101
    go_wp2
    go_ret
    have n1 : k ≠ 1 := by simpa using k1
    have n2 : k ≠ 2 := by simpa using k2
    have n3 : k ≠ 3 := by simpa using k3
    have n4 : k ≠ 4 := by simpa using k4
    have n5 : k ≠ 5 := by simpa using k5
    have e : valsE ⟨k, topic, group, part, parts, first, off, ⟨time, prod, seq, vals⟩⟩ = [] := by unfold valsE; rw [if_neg n1, if_neg n2, if_neg n3, if_neg n4, if_neg n5]
    exact ⟨_, rfl, ⟨none, 0, 0, [], rfl, ⟨RdK.nil _ _, fun m hm => absurd hm List.not_mem_nil⟩, e.symm⟩, hb1.out, by simp; omega⟩
end Go.Proofs.YtkdlofgfkfhofaaGreatDoor

/-
  gram: the cursor's text.
-/
namespace Go.Proofs.YtkdlofgfkfhofaaGreatDoor
open Go.RowKit
attribute [local go_sem] w8_nn w8_256 wrap_i64_w8 wrap64_w8 pastA_zero pastA_some
attribute [local go_sem ↓] sliced_past

theorem getN_err {size : Nat} {lo hi : Int} {bs : List UInt8} {k : Int} (h : getN size lo hi bs = .error k) : k = 2 ∨ k = 3 := by
  unfold getN at h
  split at h
  · injection h with h; exact .inr h.symm
  · split at h
    · cases h
    · injection h with h; exact .inl h.symm
theorem getT_err {lo hi : Int} {bs : List UInt8} {k : Int} (h : getT lo hi bs = .error k) : k = 2 ∨ k = 3 := by
  unfold getT at h
  split at h
  · rename_i k' hn
    injection h with h
    subst h
    exact getN_err hn
  · split at h
    · injection h with h; exact .inr h.symm
    · cases h
/-- what a number's reading does -/
def NumR (size : Nat) (lo hi : Int) (l : List UInt8) (p : Nat) (m : Int) (p' : Nat) (b' : Int) : Prop :=
  (∃ r, getN size lo hi (l.drop p) = .ok (m, r) ∧ b' = 0 ∧ r = l.drop p' ∧ p' = p + size ∧ 0 ≤ m ∧ m ≤ hi) ∨ (getN size lo hi (l.drop p) = .error b' ∧ b' ≠ 0 ∧ m = 0 ∧ p' = p)
theorem num_r (g : Nat) (A : Option Addr) (n c : Nat) (l : List UInt8) (p : Nat) (size : Nat) (sz lo hi : Int) (hsz : sz = size) (w : World) (hr : RdB w A n c l) (hc : Cur w g A n c p 0) (hp : p ≤ n) (hs : size ≤ 8) (hlo : 0 ≤ lo) (hlh : lo ≤ hi) (hhi : hi ≤ 9223372036854775807) :
    Calls Tryz.prog 185 #[.pointer (some ⟨g, 0, none⟩), .int .i64 sz, .int .i64 lo, .int .i64 hi] w fun e w' => ∃ (m : Int) (p' : Nat) (b' : Int), e = .returned (.int .i64 m) ∧ Cur w' g A n c p' b' ∧ w.grownBy w' (some g) ∧ p' ≤ n ∧ NumR size lo hi l p m p' b' := by
  subst hsz
  refine (num_any g A n c l p 0 size lo hi w hr hc hp hs hlo hlh hhi).mono ?_
  rintro e w' ⟨rfl, h2, h3⟩
  have hlen := hr.len
  unfold numS at h2 ⊢
  rw [if_pos rfl] at h2 ⊢
  cases hg : getN size lo hi (l.drop p) with
  | ok x =>
    obtain ⟨m, r⟩ := x
    rw [hg] at h2
    obtain ⟨a1, a2, a3, a4⟩ := getN_inv hg
    have hln := congrArg List.length a4
    rw [List.length_drop, List.length_append, leB_len] at hln
    refine ⟨m, p + size, 0, rfl, h2, h3, by omega, .inl ⟨r, hg, rfl, ?_, rfl, a1, a3⟩⟩
    rw [← List.drop_drop, a4, List.drop_append_of_le_length (by rw [leB_len]; omega), List.drop_of_length_le (by rw [leB_len]; omega), List.nil_append]
  | error k =>
    rw [hg] at h2
    have := getN_err hg
    exact ⟨0, p, k, rfl, h2, h3, hp, .inr ⟨hg, by omega, rfl, rfl⟩⟩
/-- what a text's reading does -/
def TextR (lo hi : Int) (l : List UInt8) (p : Nat) (s : ByteArray) (p' : Nat) (b' : Int) : Prop :=
  (∃ r, getT lo hi (l.drop p) = .ok (s, r) ∧ b' = 0 ∧ r = l.drop p') ∨ (getT lo hi (l.drop p) = .error b' ∧ b' ≠ 0)
theorem Cur.c0 {w : World} {g : Nat} {A : Option Addr} {n c p : Nat} {bad : Int} (h : Cur w g A n c p bad) : w.cell? ⟨g, 0, none⟩ = some (.slice A n c) := Bk.cell h 0
theorem Cur.c1 {w : World} {g : Nat} {A : Option Addr} {n c p : Nat} {bad : Int} (h : Cur w g A n c p bad) : w.cell? ⟨g, 1, none⟩ = some (.int .i64 p) := Bk.cell h 1
theorem Cur.c2 {w : World} {g : Nat} {A : Option Addr} {n c p : Nat} {bad : Int} (h : Cur w g A n c p bad) : w.cell? ⟨g, 2, none⟩ = some (.int .i64 bad) := Bk.cell h 2
theorem RdB.grown {w w' : World} {A : Option Addr} {n c : Nat} {l : List UInt8} {g : Nat} (h : RdB w A n c l) (hg : w.grownBy w' (some g)) (hA : ∀ ad, A = some ad → 0 < n → ad.block ≠ g) : RdB w' A n c l :=
  ⟨Rd.len h, Rd.cap h, Rd.big h, fun k u hu => by
    obtain ⟨ad, e, hlt, hc⟩ := Rd.cell h k u hu
    exact ⟨ad, e, Nat.lt_of_lt_of_le hlt hg.size, hg.cell hc (fun e2 => hA ad e (by have := (List.getElem?_eq_some_iff.1 hu).1; have := Rd.len h; omega) (by rw [add_block] at e2; exact Option.some.inj e2))⟩⟩
set_option maxRecDepth 100000 in
set_option maxHeartbeats 1000000 in
theorem text_bad (g : Nat) (A : Option Addr) (n c : Nat) (l : List UInt8) (p : Nat) (bad : Int) (hb : bad ≠ 0) (lo hi : Int) (w : World) (hr : RdB w A n c l) (hc : Cur w g A n c p bad) (hp : p ≤ n) (hlo : 0 ≤ lo) (hlh : lo ≤ hi) (hhi : hi ≤ 65535) :
    Calls Tryz.prog 186 #[.pointer (some ⟨g, 0, none⟩), .int .i64 lo, .int .i64 hi] w fun e w' => e = .returned (.string ⟨#[]⟩) ∧ Cur w' g A n c p bad ∧ w.grownBy w' (some g) := by
  have hN := num_any g A n c l p bad 2 lo hi w hr hc hp (by omega) hlo hlh (by omega)
  have e : numS 2 lo hi l p bad = (0, p, bad) := by unfold numS; rw [if_neg hb]
  rw [e] at hN
  have HN := Lib.hid hN
  have hb1 : (bad == 0) = false := by simp [hb]
  have hb2 : (bad != 0) = true := by rw [bne_iff_ne]; exact hb
  clear hN e hc
  go_enter Tryz.func186, Tryz.ntmps186
  go_wp2_with fail
  refine HN.out.mono ?_
  rintro e w1 ⟨rfl, hc1, hg1⟩
  have c2 := Cur.c2 hc1
  have HC1 := Lib.hid hc1
  clear hc1
  go_wp2_with fail
  go_quiet (fail)
  go_wp2_with fail
  go_ret
  exact ⟨rfl, HC1.out.drawn _, hg1.trans ((grown_of_below (below_drawn (Below.refl _ _) _)).but _)⟩
set_option maxRecDepth 100000 in
set_option maxHeartbeats 2000000 in
theorem text_ok (g : Nat) (A : Option Addr) (n c : Nat) (l : List UInt8) (p : Nat) (lo hi : Int) (w : World) (hr : RdB w A n c l) (hc : Cur w g A n c p 0) (hA : ∀ ad, A = some ad → 0 < n → ad.block ≠ g) (hp : p ≤ n) (hlo : 0 ≤ lo) (hlh : lo ≤ hi) (hhi : hi ≤ 65535) :
    Calls Tryz.prog 186 #[.pointer (some ⟨g, 0, none⟩), .int .i64 lo, .int .i64 hi] w fun e w' => ∃ (s : ByteArray) (p' : Nat) (b' : Int), e = .returned (.string s) ∧ Cur w' g A n c p' b' ∧ w.grownBy w' (some g) ∧ p' ≤ n ∧ TextR lo hi l p s p' b' := by
  have HN := Lib.hid (num_r g A n c l p 2 2 lo hi rfl w hr hc hp (by omega) hlo hlh (by omega))
  have HRd := Lib.hid hr
  have hbig := hr.big
  have hcap := hr.cap
  have hlen := Lib.hid hr.len
  clear hc hr
  go_enter Tryz.func186, Tryz.ntmps186
  go_wp2_with fail
  refine HN.out.mono ?_
  rintro e w1 ⟨m, p1, b1, rfl, hc1, hg1, hp1, hnr⟩
  have c0 := Cur.c0 hc1
  have c1 := Cur.c1 hc1
  have c2 := Cur.c2 hc1
  have f2 := Bk.thaw hc1 2
  have f1 := Bk.thaw hc1 1
  have HC1 := Lib.hid hc1
  have HG1 := Lib.hid hg1
  clear hc1 hg1 HN
  rcases hnr with ⟨r, hn1, rfl, rfl, rfl, hm0, hm1⟩ | ⟨hn1, hb1, rfl, rfl⟩
  · obtain ⟨k, rfl⟩ := Int.eq_ofNat_of_zero_le hm0
    have hw1 : IntKind.i64.wrap ((n : Int) - ((p + 2 : Nat) : Int)) = (n : Int) - ((p + 2 : Nat) : Int) := by rw [IntKind.wrap_i64]; omega
    have HL2 := Lib.hid (show (l.drop (p + 2)).length = n - (p + 2) by rw [List.length_drop, hlen.out])
    have Hn1 := Lib.hid hn1
    clear hn1
    obtain ⟨q, hq⟩ : ∃ q, p + 2 = q := ⟨_, rfl⟩
    rw [hq] at c1 hw1 HC1 hp1 HL2 Hn1
    by_cases hsh : n - q < k
    · have hi1 : (n : Int) - (q : Int) < (k : Int) := by omega
      go_wp2_with fail
      go_quiet (fail)
      go_wp2_with fail
      go_ret
      refine ⟨⟨#[]⟩, q, 3, rfl, (HC1.out.drawn _).put 2 _, HG1.out.trans ((grown_of_below (below_drawn (Below.refl _ _) _)).but _ |>.trans (grown_set _ ⟨g, 2, none⟩ _)), hp1, .inr ⟨?_, by omega⟩⟩
      unfold getT
      rw [Hn1.out]
      simp only [Int.toNat_natCast]
      rw [if_pos (by rw [HL2.out]; omega)]
    · have hi1 : (k : Int) ≤ (n : Int) - (q : Int) := by omega
      have hw2 : IntKind.i64.wrap ((q : Int) + (k : Int)) = ((q + k : Nat) : Int) := by rw [IntKind.wrap_i64]; omega
      go_wp2_with fail
      go_quiet (fail)
      go_wp2_with fail
      have hg2 : w1.grownBy ((w1.drewN nq).setCell ⟨g, 1, none⟩ (.int .i64 ((q : Int) + (k : Int)))) (some g) := ((grown_of_below (below_drawn (Below.refl _ _) _)).but _).trans (grown_set _ ⟨g, 1, none⟩ _)
      refine wp_cut (fun w' => Bk w' g 237 #[.slice A n c, .int .i64 ((q : Int) + (k : Int)), .int .i64 0] ∧ w1.grownBy w' (some g)) ⟨(HC1.out.drawn _).put 1 _, hg2⟩ ?_
      clear hg2 c0 c1 c2 f1 f2 hw1
      rintro w2 ⟨hk2, hg3⟩
      have d0 : w2.cell? ⟨g, 0, none⟩ = some (.slice A n c) := hk2.cell 0
      have d1 : w2.cell? ⟨g, 1, none⟩ = some (.int .i64 ((q : Int) + (k : Int))) := hk2.cell 1
      have HG3 := Lib.hid (HG1.out.trans hg3)
      have HK2 := Lib.hid hk2
      have hr2 := HRd.out.grown HG3.out hA
      have hcv := fun t => conv_any (RdB.drawn ((hr2.past' q hp1).upto k (by omega)) t)
      have hw3 : IntKind.i64.wrap ((q : Int) + (k : Int) - (k : Int)) = (q : Int) := by rw [IntKind.wrap_i64]; omega
      have hw4 : IntKind.i64.wrap (q : Int) = (q : Int) := by rw [IntKind.wrap_i64]; omega
      have hq1 : (q : Int) ≤ (q : Int) + (k : Int) := by omega
      have hq2 : (q : Int) + (k : Int) ≤ (c : Int) := by omega
      have hq3 : q + k ≤ c := by omega
      have hN : ((q : Int) + (k : Int)).toNat = q + k := by omega
      clear hr2 hk2 hg3
      go_wp2_with fail
      go_quiet (fail)
      go_wp2_with fail
      go_ret
      refine ⟨_, q + k, 0, rfl, HK2.out.drawn _, HG3.out.trans ((grown_of_below (below_drawn (Below.refl _ _) _)).but _), by omega, .inl ⟨l.drop (q + k), ?_, rfl, rfl⟩⟩
      unfold getT
      rw [Hn1.out]
      simp only [Int.toNat_natCast]
      rw [if_neg (by rw [HL2.out]; omega), List.drop_drop]
  · have hb2 : (b1 == 0) = false := by simp [hb1]
    have hb3 : (b1 != 0) = true := by rw [bne_iff_ne]; exact hb1
    have Hn1 := Lib.hid hn1
    clear hn1 hb1
    go_wp2_with fail
    go_quiet (fail)
    go_wp2_with fail
    go_ret
    refine ⟨⟨#[]⟩, _, b1, rfl, HC1.out.drawn _, HG1.out.trans ((grown_of_below (below_drawn (Below.refl _ _) _)).but _), hp1, .inr ⟨?_, by simpa using hb3⟩⟩
    unfold getT
    rw [Hn1.out]
end Go.Proofs.YtkdlofgfkfhofaaGreatDoor
