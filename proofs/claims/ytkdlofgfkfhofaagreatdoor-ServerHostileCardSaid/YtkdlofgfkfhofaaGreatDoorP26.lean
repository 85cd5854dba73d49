import Derived.Test.YtkdlofgfkfhofaaGreatDoorP25
import Derived.Laws.ResultCell
/-
  gram: Get.
-/
namespace Go.Proofs.YtkdlofgfkfhofaaGreatDoor
open Go.RowKit
attribute [local go_sem ↓] ldF_eq stF_eq ldV_eq stV_eq

theorem value_any (f : Fld) (hf : f ∈ someF) (g : Nat) (A : Option Addr) (n c : Nat) (l : List UInt8) (p : Nat) (w : World) (hr : RdB w A n c l) (hc : Cur w g A n c p 0) (hp : p ≤ n) (hA : ∀ ad, A = some ad → 0 < n → ad.block ≠ g) :
    Calls Tryz.prog 131 #[.pointer (some ⟨g, 0, none⟩), .agg #[.int .i64 f.kind, .int .i64 f.size, .int .i64 f.lo, .int .i64 f.hi, .int .i64 f.most]] w fun e w' => ∃ (m : MVal) (p' : Nat) (b' : Int), e = .returned (.agg #[.int .i64 m.v.n, .string m.v.s, .slice m.A m.n m.c]) ∧ m.ok w' ∧ (∀ ad, m.A = some ad → w.heap.size ≤ ad.block ∧ ad.block < w'.heap.size) ∧ Cur w' g A n c p' b' ∧ w.grownBy w' (some g) ∧ p' ≤ n ∧ ValueR f l p m.v p' b' := by
  unfold someF at hf
  simp only [List.mem_cons, List.not_mem_nil, or_false] at hf
  rcases hf with rfl | rfl | rfl | rfl | rfl | rfl | rfl | rfl | rfl | rfl | rfl | rfl | rfl
  · exact value_text g A n c l p 0 1 24 0 w hr hc hp (by decide) (by decide) hA (by decide)
  · exact value_text g A n c l p 0 1 600 0 w hr hc hp (by decide) (by decide) hA (by decide)
  · exact value_num g A n c l p 1 1 1 4 0 rfl w hr hc hp (by decide) (by decide) (by decide) (by decide)
  · exact value_num g A n c l p 1 1 0 3 0 rfl w hr hc hp (by decide) (by decide) (by decide) (by decide)
  · exact value_num g A n c l p 8 8 0 _ 0 rfl w hr hc hp (by decide) (by decide) (by decide) (by decide)
  · exact value_num g A n c l p 8 8 0 _ 0 rfl w hr hc hp (by decide) (by decide) (by decide) (by decide)
  · exact value_num g A n c l p 4 4 0 _ 0 rfl w hr hc hp (by decide) (by decide) (by decide) (by decide)
  · exact value_num g A n c l p 8 8 0 _ 0 rfl w hr hc hp (by decide) (by decide) (by decide) (by decide)
  · exact value_texts g A n c l p 0 1 8 60 w hr hc hp (by decide) (by decide) hA (by decide) (by decide) (by decide)
  · exact value_num g A n c l p 4 4 0 _ 0 rfl w hr hc hp (by decide) (by decide) (by decide) (by decide)
  · exact value_num g A n c l p 1 1 0 255 0 rfl w hr hc hp (by decide) (by decide) (by decide) (by decide)
  · exact value_texts g A n c l p 0 0 8 24 w hr hc hp (by decide) (by decide) hA (by decide) (by decide) (by decide)
  · exact value_texts g A n c l p 0 0 4 608 w hr hc hp (by decide) (by decide) hA (by decide) (by decide) (by decide)
theorem stV_new (w : World) (m : MVal) : (stV (.pointer (some ⟨w.heap.size, 0, none⟩)) (.agg #[.int .i64 m.v.n, .string m.v.s, .slice m.A m.n m.c])).run Tryz.prog (w.alloc (.cells #[.int .i64 0, .string ⟨#[]⟩, .slice none 0 0] 198)) = .ok () (w.alloc (.cells #[.int .i64 m.v.n, .string m.v.s, .slice m.A m.n m.c] 198)) := by
  exact run_storeAt_new w 198 _ _ size_v rfl (all_oneCell_toArray (cs := m.cells) (one_v m))
theorem RdT.kept {w w' : World} {A : Option Addr} {n c : Nat} {l : List ByteArray} {row : Option Nat} (h : RdT w A n c l) (hg : w.grownBy w' row) (hne : ∀ ad, A = some ad → row ≠ some ad.block) : RdT w' A n c l :=
  ⟨Rd.len h, Rd.cap h, Rd.big h, fun k u hu => by
    obtain ⟨ad, e, hlt, hc⟩ := Rd.cell h k u hu
    exact ⟨ad, e, Nat.lt_of_lt_of_le hlt hg.size, hg.cell hc (fun e2 => hne ad e (by rw [add_block] at e2; exact e2.symm))⟩⟩
theorem Bk.keptO {w w' : World} {b : Nat} {t : TypeId} {cs : Array Value} {row : Option Nat} (h : Bk w b t cs) (hg : w.grownBy w' row) (hne : row ≠ some b) : Bk w' b t cs := by
  have hlt := h.lt
  unfold Bk at h ⊢
  rw [hg.block b hlt (fun e => hne e.symm)]
  exact h
/-- a value read: its texts lie apart -/
structure Sep (w : World) (g : Nat) (ob : Option Nat) (m : MVal) : Prop where
  ok : m.ok w
  at_ : ∀ ad, m.A = some ad → g < ad.block ∧ ad.block < w.heap.size ∧ ob ≠ some ad.block
theorem Sep.ext {w w' : World} {g : Nat} {ob : Option Nat} {m : MVal} (h : Sep w g ob m) (hb : Below w.heap.size w w') : Sep w' g ob m :=
  ⟨MVal.ext h.ok hb, fun ad e => by obtain ⟨a, b, d⟩ := h.at_ ad e; exact ⟨a, Nat.lt_of_lt_of_le b hb.size, d⟩⟩
theorem Sep.grown {w w' : World} {g : Nat} {ob row : Option Nat} {m : MVal} (h : Sep w g ob m) (hg : w.grownBy w' row) (hr : row = some g ∨ row = ob) : Sep w' g ob m :=
  ⟨RdT.kept h.ok hg (fun ad e => by
    obtain ⟨a, _, d⟩ := h.at_ ad e
    rcases hr with rfl | rfl
    · intro e2; have := Option.some.inj e2; omega
    · exact d), fun ad e => by obtain ⟨a, b, d⟩ := h.at_ ad e; exact ⟨a, Nat.lt_of_lt_of_le b hg.size, d⟩⟩
theorem Sep.own {w : World} {g N : Nat} {ob ob' : Option Nat} {m : MVal} (h : Sep w g ob m) (hN : ∀ ad, m.A = some ad → ad.block < N) (ho : ob' = ob ∨ ob' = some N) : Sep w g ob' m :=
  ⟨h.ok, fun ad e => by
    obtain ⟨a, b, d⟩ := h.at_ ad e
    refine ⟨a, b, ?_⟩
    rcases ho with rfl | rfl
    · exact d
    · intro e2; have := Option.some.inj e2; have := hN ad e; omega⟩
/-- Get's two results -/
def GetR (fs : List Fld) (l : List UInt8) (B : Nat) (w' : World) (A : Option Addr) (n c : Nat) (v : Value) : Prop :=
  (∃ ms, v = .nilIface ∧ RdV w' A n c ms ∧ getAll fs l = .ok (vsOf ms) ∧ ∀ m ∈ ms, ∀ ad, m.A = some ad → B ≤ ad.block) ∨ (∃ k, IsErr 1 v k ∧ getAll fs l = .error k)
/-- the state of Get's loop -/
def GtR (fs : List Fld) (l : List UInt8) (k : Nat) (vs : List Val) (p : Nat) : Prop :=
  getAll fs l = (match getAll (fs.drop k) (l.drop p) with | .ok v2 => .ok (vs ++ v2) | .error e => .error e)
theorem getAll_cons (f : Fld) (fs : List Fld) (bs : List UInt8) : getAll (f :: fs) bs = (match getV f bs with
    | .error e => .error e
    | .ok (v, r) => match getAll fs r with
      | .error e => .error e
      | .ok vs => .ok (v :: vs)) := by cases bs <;> rfl
theorem GtR.start {fs : List Fld} {l : List UInt8} : GtR fs l 0 [] 0 := by
  unfold GtR
  rw [List.drop_zero, List.drop_zero]
  cases getAll fs l with
  | ok x => simp
  | error e => rfl
theorem GtR.next {fs : List Fld} {l : List UInt8} {k : Nat} {vs : List Val} {p p' : Nat} {f : Fld} {v : Val} (h : GtR fs l k vs p) (hf : fs[k]? = some f) (hv : getV f (l.drop p) = .ok (v, l.drop p')) : GtR fs l (k + 1) (vs ++ [v]) p' := by
  unfold GtR at h ⊢
  obtain ⟨hk, e⟩ := List.getElem?_eq_some_iff.1 hf
  rw [List.drop_eq_getElem_cons hk, e, getAll_cons, hv] at h
  simp only at h
  rw [h]
  cases getAll (fs.drop (k + 1)) (l.drop p') with
  | ok x => simp
  | error e => rfl
theorem GtR.bad {fs : List Fld} {l : List UInt8} {k : Nat} {vs : List Val} {p : Nat} {f : Fld} {e0 : Int} (h : GtR fs l k vs p) (hf : fs[k]? = some f) (hv : getV f (l.drop p) = .error e0) : getAll fs l = .error e0 := by
  unfold GtR at h
  obtain ⟨hk, e⟩ := List.getElem?_eq_some_iff.1 hf
  rw [List.drop_eq_getElem_cons hk, e, getAll_cons, hv] at h
  exact h
set_option maxRecDepth 100000 in
set_option maxHeartbeats 4000000 in
theorem fget_any (A : Option Addr) (n c : Nat) (fs : List Fld) (Ab : Option Addr) (nb cb : Nat) (l : List UInt8) (w : World) (hf : ∀ f ∈ fs, f ∈ someF) (h : RdF w A n c fs) (hb : RdB w Ab nb cb l) (hn : n ≤ 100) :
    Calls Tryz.prog 79 #[.slice A n c, .slice Ab nb cb] w fun e w' => ∃ A' n' c' v, e = .returned (.tuple #[.slice A' n' c', v]) ∧ GetR fs l w.heap.size w' A' n' c' v ∧ Below w.heap.size w w' := by
  obtain ⟨ii, hi0, hz0, hs0, hy0⟩ := info_parts info_v
  have hW := Lib.hid (wrong_any A n c fs hf w h)
  have hcap := h.cap
  have hbig := h.big
  have hlen := h.len
  rw [List.length_map] at hlen
  have HL := Lib.hid hlen
  have H := Lib.hid h
  have HBs := Lib.hid hb
  have HF := Lib.hid hf
  have HI := Lib.hid hi0
  have HZ := Lib.hid hz0
  have HS := Lib.hid hs0
  have HY := Lib.hid hy0
  clear h hf hlen hb hi0 hz0 hs0 hy0
  go_enter Tryz.func79, Tryz.ntmps79
  go_wp2_with (first | (go_at_call 103; (with_reducible refine hW.out.mono ?_); rintro e w1 ⟨rfl, hb1⟩) | fail)
  have HB1 := Lib.hid hb1
  have HC1 := Lib.hid (show Cur (w1.alloc (.cells #[.slice Ab nb cb, .int .i64 0, .int .i64 0] 237)) w1.heap.size Ab nb cb 0 0 from Bk.made w1 _ _)
  have hB2 := Lib.hid (hb1.alloc hb1.size (.cells #[.slice Ab nb cb, .int .i64 0, .int .i64 0] 237))
  have HA := Lib.hid (show ∀ ad, Ab = some ad → 0 < nb → ad.block ≠ w1.heap.size from fun ad e h0 e2 => by
    obtain ⟨ad', e3, hlt, _⟩ := Rd.get HBs.out h0
    rw [e] at e3
    injection e3 with e3
    subst e3
    have := HB1.out.size
    omega)
  clear hb1 hW
  go_loopw [8, 25] (fun o i wr => ∃ (k : Nat) (ms : List MVal) (A3 : Option Addr) (c3 pj : Nat), k ≤ n ∧ i = .int .i64 k ∧ o = .slice A3 k c3 ∧ Hid (wr.ownsRow (w1.heap.size + 1) 198 3 (.slice A3 k c3) k (ms.flatMap MVal.cells)) ∧ Hid (∀ m ∈ ms, Sep wr w1.heap.size (Value.slice A3 k c3).ownBlock m) ∧ Hid (Cur wr w1.heap.size Ab nb cb pj 0) ∧ Hid (Below w.heap.size w wr) ∧ Hid (w1.heap.size < wr.heap.size) ∧ pj ≤ nb ∧ Hid (GtR fs l k (vsOf ms) pj)) (fun _ i _ => n - (intOf i).toNat)
  case atStart => exact ⟨0, [], none, 0, 0, Nat.zero_le _, rfl, rfl, World.ownsRow_nil _ _ _ _, fun m hm => absurd hm List.not_mem_nil, HC1.out, hB2.out, by show _ < _; simp, Nat.zero_le _, GtR.start⟩
  case round =>
    obtain ⟨k, ms, A3, c3, pj, hk, rfl, rfl, hOwn, hSep, hCur, hBl, hGs, hpj, hGt⟩ := hrel
    by_cases hlt : k < n
    · have hi : (k : Int) < n := by omega
      obtain ⟨f, hfk⟩ : ∃ f, fs[k]? = some f := ⟨fs[k]'(by have := HL.out; omega), List.getElem?_eq_getElem _⟩
      obtain ⟨g, rfl, hgl, hce⟩ := (H.out.ext hBl.out).cell k f.cells (by rw [List.getElem?_map, hfk]; rfl)
      have hld := ldF_at hce
      have hst := stF_new wr f
      have hbn := below_new wr (.cells #[.int .i64 f.kind, .int .i64 f.size, .int .i64 f.lo, .int .i64 f.hi, .int .i64 f.most] 193)
      have hld2 := ldF_bk (f := f) (Bk.made wr 193 #[.int .i64 f.kind, .int .i64 f.size, .int .i64 f.lo, .int .i64 f.hi, .int .i64 f.most])
      have c1 := Cur.c1 (show Cur (wr.alloc (.cells #[.int .i64 f.kind, .int .i64 f.size, .int .i64 f.lo, .int .i64 f.hi, .int .i64 f.most] 193)) w1.heap.size Ab nb cb pj 0 from Bk.ext hCur.out hbn)
      have hVl := Lib.hid (value_any f (HF.out f (List.mem_of_getElem? hfk)) w1.heap.size Ab nb cb l pj _ (HBs.out.ext (hBl.out.trans (below_le hBl.out.size hbn))) (Bk.ext hCur.out hbn) hpj HA.out)
      have Hfk := Lib.hid hfk
      have Hbn := Lib.hid hbn
      clear hce hfk hbn
      go_wp2_with fail
      with_reducible refine hVl.out.mono ?_
      rintro e w2 ⟨m, p2, b2, rfl, hok2, hat2, hc2, hg2, hp2, hv2⟩
      have bMn := below_new w2 (.cells #[.int .i64 m.v.n, .string m.v.s, .slice m.A m.n m.c] 198)
      have cbad := Cur.c2 (show Cur (w2.alloc (.cells #[.int .i64 m.v.n, .string m.v.s, .slice m.A m.n m.c] 198)) w1.heap.size Ab nb cb p2 b2 from Bk.ext hc2 bMn)
      have HC2 := Lib.hid hc2
      have hst2 := stV_new w2 m
      have hB2 : Below w.heap.size w w2 := by
        have b1 := hBl.out.trans (below_le hBl.out.size Hbn.out)
        exact below_grown b1 b1.size hg2 (by have := HB1.out.size; omega)
      have hgs2 : w1.heap.size < w2.heap.size := Nat.lt_of_lt_of_le (Nat.lt_of_lt_of_le hGs.out Hbn.out.size) hg2.size
      have hOwn2 : w2.ownsRow (w1.heap.size + 1) 198 3 (.slice A3 k c3) k (ms.flatMap MVal.cells) := World.ownsRow.kept (World.ownsRow.alloc hOwn.out _) hg2 (.inr (own_not hOwn.out (Nat.lt_succ_self _)))
      have hSep2 : ∀ x ∈ ms, Sep w2 w1.heap.size (Value.slice A3 k c3).ownBlock x := fun x hx => ((hSep.out x hx).ext Hbn.out).grown hg2 (.inl rfl)
      have hob : ∀ j, (Value.slice A3 k c3).ownBlock = some j → j < wr.heap.size := fun j hj => (World.ownsRow.lt hOwn.out j hj).2
      have hSm : Sep w2 w1.heap.size (Value.slice A3 k c3).ownBlock m := ⟨hok2, fun ad e => by
        obtain ⟨a1, a2⟩ := hat2 ad e
        have a3 := Hbn.out.size
        have a4 := hGs.out
        refine ⟨by omega, a2, fun e2 => ?_⟩
        have := hob _ e2
        omega⟩
      have HB2 := Lib.hid hB2
      have HGs2 := Lib.hid hgs2
      have HOwn2 := Lib.hid hOwn2
      have HSep2 := Lib.hid hSep2
      have HSm := Lib.hid hSm
      have Hv2 := Lib.hid hv2
      have HbMn := Lib.hid bMn
      clear hc2 hVl hok2 hat2 hg2 hv2 hB2 hgs2 hOwn2 hSep2 hSm hob c1 bMn
      rcases Hv2.out with ⟨rfl, hv3⟩ | ⟨hb3, hv3⟩
      · have hld3 := ldV_bk (m := m) (Bk.made w2 198 #[.int .i64 m.v.n, .string m.v.s, .slice m.A m.n m.c])
        have Hv3 := Lib.hid hv3
        clear hv3
        go_wp2_with (first | (at_builtin; refine wpList_append_gen rfl (.tmp 48) (.tmp 50) 128 rfl 198 ii _ 3 48 Tryz.underlying128 HI.out HZ.out HS.out HY.out rfl (by omega) (w1.heap.size + 1) ((w2.alloc (.cells #[.int .i64 m.v.n, .string m.v.s, .slice m.A m.n m.c] 198)).alloc (.cells #[.int .i64 m.v.n, .string m.v.s, .slice m.A m.n m.c] 198)) _ k (ms.flatMap MVal.cells) rfl (World.ownsRow.alloc (World.ownsRow.alloc HOwn2.out _) _) ⟨w2.heap.size + 1, 0, none⟩ 1 1 m.cells rfl rfl (cells_newm _ _ (0, 0) _ _ rfl _ (by simp)) (one_v m) (by unfold maxLen; omega) (by omega) (Below.refl _ _) (by simp; have := HGs2.out; omega) ?_; intro A5 c5 w5 ho5 hg5 hob5 hb5 hs5) | fail)
        have HW2 := Lib.hid (HbMn.out.trans (below_le (by simp) (below_new (w2.alloc (.cells #[.int .i64 m.v.n, .string m.v.s, .slice m.A m.n m.c] 198)) (.cells #[.int .i64 m.v.n, .string m.v.s, .slice m.A m.n m.c] 198))))
        have hgp := own_not HOwn2.out (Nat.lt_succ_self _)
        have q1 : Cur w5 w1.heap.size Ab nb cb p2 0 := Bk.keptO (Bk.ext HC2.out HW2.out) hg5.out hgp
        have q2 : Below w.heap.size w w5 := (HB2.out.trans (below_le HB2.out.size HW2.out)).trans (below_le (by have := HB1.out.size; omega) hb5)
        have q3 : ∀ x, Sep w2 w1.heap.size (Value.slice A3 k c3).ownBlock x → Sep w5 w1.heap.size (Value.slice A5 (k + 1) c5).ownBlock x := fun x hx =>
          ((hx.ext HW2.out).grown hg5.out (.inr rfl)).own (fun ad e => ((hx.ext HW2.out).at_ ad e).2.1) hob5.out
        have q4 : ∀ x ∈ ms ++ [m], Sep w5 w1.heap.size (Value.slice A5 (k + 1) c5).ownBlock x := fun x hx => by
          rcases List.mem_append.1 hx with hx | hx
          · exact q3 x (HSep2.out x hx)
          · rw [List.mem_singleton] at hx
            subst hx
            exact q3 _ HSm.out
        have q5 : w5.ownsRow (w1.heap.size + 1) 198 3 (.slice A5 (k + 1) c5) (k + 1) ((ms ++ [m]).flatMap MVal.cells) := by
          rw [List.flatMap_append, show [m].flatMap MVal.cells = m.cells from by simp]
          exact ho5.out
        have q6 : GtR fs l (k + 1) (vsOf (ms ++ [m])) p2 := by
          unfold vsOf
          rw [List.map_append]
          exact hGt.out.next Hfk.out Hv3.out
        exact ⟨⟨k + 1, ms ++ [m], A5, c5, p2, by omega, by go_num, rfl, q5, q4, q1, q2, by show _ < _; omega, hp2, q6⟩, by simp [intOf]; omega⟩
      · have hb4 : (b2 != 0) = true := by rw [bne_iff_ne]; exact hb3
        have Hv3 := Lib.hid hv3
        clear hv3 hb3
        go_wp2_with (first | (go_at_call 39; refine (wrap_err (.no b2) _ _ _).mono ?_; rintro e w4 ⟨v4, rfl, he4, rfl⟩) | fail)
        go_ret2
        exact ⟨_, _, _, _, rfl, .inr ⟨b2, he4, hGt.out.bad Hfk.out Hv3.out⟩, HB2.out.trans (below_le HB2.out.size HbMn.out)⟩
    · obtain rfl : k = n := by omega
      have c1 := Cur.c1 hCur.out
      have hlb := HBs.out.len
      have hdr : fs.drop k = [] := List.drop_of_length_le (by have := HL.out; omega)
      have hgt := hGt.out
      unfold GtR at hgt
      rw [hdr] at hgt
      have Hgt := Lib.hid hgt
      clear hgt hdr
      by_cases hp : pj < nb
      · have hp' : (pj : Int) < nb := by omega
        obtain ⟨x, r, hx⟩ : ∃ x r, l.drop pj = x :: r := by
          cases hd : l.drop pj with
          | nil => have := congrArg List.length hd; rw [List.length_drop] at this; simp at this; omega
          | cons x r => exact ⟨x, r, rfl⟩
        have Hx := Lib.hid hx
        clear hx
        go_wp2_with (first | (go_at_call 39; refine (wrap_err (.no 4) _ _ _).mono ?_; rintro e w4 ⟨v4, rfl, he4, rfl⟩) | fail)
        go_ret2
        refine ⟨_, _, _, _, rfl, .inr ⟨4, he4, ?_⟩, hBl.out⟩
        rw [Hgt.out, Hx.out]
        rfl
      · have hp' : ¬ ((pj : Int) < nb) := by omega
        have hx : Hid (l.drop pj = []) := List.drop_of_length_le (by omega)
        go_wp2_with fail
        go_ret2
        refine ⟨_, _, _, _, rfl, .inl ⟨ms, rfl, ⟨RdK.of_own MVal.cells m3 (by omega) ms hOwn.out, fun m hm => (hSep.out m hm).ok⟩, ?_, fun m hm ad e => by have := ((hSep.out m hm).at_ ad e).1; have := HB1.out.size; omega⟩, hBl.out⟩
        rw [Hgt.out, hx.out]
        show Except.ok (_ ++ []) = _
        rw [List.append_nil]
end Go.Proofs.YtkdlofgfkfhofaaGreatDoor

/-
  batch: Get.
-/
namespace Go.Proofs.YtkdlofgfkfhofaaGreatDoor
open Go.RowKit
attribute [local go_sem ↓] ldB_eq

def stB (v u : Value) : Sem Unit := Instr.storeAt 30 v u
theorem stB_eq (v u : Value) : Instr.storeAt 30 v u = stB v u := rfl
theorem one_b (b : Bat) (A : Option Addr) (n c : Nat) : ∀ u ∈ b.cells A n c, u.oneCell' = true := one_all rfl
theorem stB_row (w : World) (g : Nat) (b : Bat) (A : Option Addr) (n c : Nat) (old : Array Value) (h : Bk w g 30 old) (ho : old.size = 4) : (stB (.pointer (some ⟨g, 0, none⟩)) (.agg #[.int .i64 b.time, .int .i64 b.prod, .int .i64 b.seq, .slice A n c])).run Tryz.prog w = .ok () (w.setRow g #[.int .i64 b.time, .int .i64 b.prod, .int .i64 b.seq, .slice A n c]) := by
  unfold stB
  simp only [Instr.storeAt, Instr.sureAddr, Sem.run_bind, Sem.run_pure, Result.andThen_ok, run_storeVar_row w g _ _ old #[.int .i64 b.time, .int .i64 b.prod, .int .i64 b.seq, .slice A n c] h size_b (by rw [ho]; rfl) (all_oneCell_toArray (cs := b.cells A n c) (one_b b A n c))]
attribute [local go_sem ↓] stB_eq
theorem IsErr.ne {d : Nat} {v : Value} {k : Int} (h : IsErr d v k) (w : World) : (binOp .neq 52 v .nilIface).run Tryz.prog w = .ok (.bool true) w := by
  cases h with
  | no k => kernel_rfl
  | flt d op at_ v k h => kernel_rfl
theorem IsErr.guardN {d : Nat} {v : Value} {k : Int} (h : IsErr d v k) (x : Tmp) (w : World) : (eqGuard .neq 52 (.tmp x) (.const .nilIface) v .nilIface).run Tryz.prog w = .ok () w := by
  cases h with
  | no k => kernel_rfl
  | flt d op at_ v k h => kernel_rfl
theorem res_bat {fn : Func} {p u : Tmp} (h : fn.results = #[.cell p 30, .tmp u]) (tmps : Array Value) (w : World) (g : Nat) (b : Bat) (A : Option Addr) (n c : Nat) (hp : tmps.getD p undef = .pointer (some ⟨g, 0, none⟩)) (hb : Bk w g 30 #[.int .i64 b.time, .int .i64 b.prod, .int .i64 b.seq, .slice A n c]) :
    (results fn tmps).run Tryz.prog w = .ok (.tuple #[.agg #[.int .i64 b.time, .int .i64 b.prod, .int .i64 b.seq, .slice A n c], tmps.getD u undef]) w := by
  rw [results_cell_tmp h, hp]
  simp only [asAddr, Sem.run_pure, Result.andThen_ok, run_loadVar_row w g _ _ _ (0, 0) _ hb Tryz.underlying30 rfl size_b]
/-- what batch.Get hands back -/
def BatR (l : List UInt8) (B : Nat) (w' : World) (b : Bat) (A : Option Addr) (n c : Nat) (v : Value) : Prop :=
  RdT w' A n c b.vals ∧ (∀ ad, A = some ad → B ≤ ad.block) ∧ ((v = .nilIface ∧ getB l = .ok b) ∨ (b = noB ∧ ∃ d k, IsErr d v k ∧ getB l = .error k))
theorem bat_ms {ms : List MVal} {l : List UInt8} (h : getAll batF l = .ok (vsOf ms)) : ∃ m0 m1 m2 m3, ms = [m0, m1, m2, m3] ∧ madeB (vsOf ms) = ⟨m0.v.n, m1.v.n, m2.v.n, m3.v.l⟩ := by
  obtain ⟨h1, _⟩ := getAll_inv batF l _ good_bat h
  obtain ⟨b, h2, _⟩ := bat_shape h1
  have hl := congrArg List.length h2
  unfold vsOf at hl
  rw [List.length_map] at hl
  match ms, hl with
  | [m0, m1, m2, m3], _ => exact ⟨m0, m1, m2, m3, rfl, rfl⟩
set_option maxRecDepth 100000 in
set_option maxHeartbeats 4000000 in
theorem bget_any (A : Option Addr) (n c : Nat) (l : List UInt8) (w : World) (hr : RdB w A n c l) :
    Calls Tryz.prog 184 #[.slice A n c] w fun e w' => ∃ b A' n' c' v, e = .returned (.tuple #[.agg #[.int .i64 b.time, .int .i64 b.prod, .int .i64 b.seq, .slice A' n' c'], v]) ∧ BatR l w.heap.size w' b A' n' c' v ∧ Below w.heap.size w w' := by
  have hbn := below_new w (.cells #[.int .i64 0, .int .i64 0, .int .i64 0, .slice none 0 0] 30)
  have hz := Bk.made w 30 #[.int .i64 0, .int .i64 0, .int .i64 0, .slice none 0 0]
  have Hz := Lib.hid hz
  have Hbn := Lib.hid hbn
  have HRb := Lib.hid hr
  have HFd := Lib.hid (bfields_any _ w w.heap.size hbn hbn.size)
  clear hz hbn hr
  go_enter Tryz.func184, Tryz.ntmps184
  go_wp2_with fail
  with_reducible refine HFd.out.mono ?_
  rintro e w1 ⟨g1, rfl, hf1, hb1, hs1, hx1⟩
  have hz1 := Lib.hid (Hz.out.ext hx1)
  have HB1 := Lib.hid hb1
  have HG := Lib.hid (fget_any _ 4 4 batF A n c l w1 bat_some hf1 (HRb.out.ext hb1) (by omega))
  clear hf1 hb1 hx1
  go_wp2_with fail
  with_reducible refine HG.out.mono ?_
  rintro e w2 ⟨A2, n2, c2, v2, rfl, hgr, hb2⟩
  have hz2 := Lib.hid (hz1.out.ext hb2)
  have HB2 := Lib.hid (HB1.out.trans (below_le hs1 hb2))
  clear hb2
  rcases hgr with ⟨ms, rfl, hv, hga, hpr⟩ | ⟨k, hk, hga⟩
  · obtain ⟨m0, m1, m2, m3, rfl, hmade⟩ := bat_ms hga
    have hlen := hv.rows.len
    obtain rfl : n2 = 4 := by simpa using hlen.symm
    obtain ⟨gv, rfl, hgv, e0⟩ := hv.rows.cell 0 m0.cells rfl
    obtain ⟨_, h1, _, e1⟩ := hv.rows.cell 1 m1.cells rfl
    injection h1 with h1; injection h1 with h1; subst h1
    obtain ⟨_, h1, _, e2⟩ := hv.rows.cell 2 m2.cells rfl
    injection h1 with h1; injection h1 with h1; subst h1
    obtain ⟨_, h1, _, e3⟩ := hv.rows.cell 3 m3.cells rfl
    injection h1 with h1; injection h1 with h1; subst h1
    have d0 : w2.cell? ⟨gv, 0, none⟩ = some (.int .i64 m0.v.n) := e0 0 _ rfl
    have d3 : w2.cell? ⟨gv, 3, none⟩ = some (.int .i64 m1.v.n) := e1 0 _ rfl
    have d6 : w2.cell? ⟨gv, 6, none⟩ = some (.int .i64 m2.v.n) := e2 0 _ rfl
    have d11 : w2.cell? ⟨gv, 11, none⟩ = some (.slice m3.A m3.n m3.c) := e3 2 _ rfl
    have Hok := Lib.hid (hv.vals m3 (by simp))
    have Hpr := Lib.hid (hpr m3 (by simp))
    have Hw1 := Lib.hid hz1.out.lt
    clear hpr
    have Hga := Lib.hid hga
    have Hmade := Lib.hid hmade
    have hcv := hv.rows.cap
    have hcb := hv.rows.big
    clear e0 e1 e2 e3 hv hga hlen hmade
    have FS : Hid (∀ w', Below w2.heap.size w2 w' → (Below w2.heap.size w2 w' ∧ w'.cell? ⟨gv, 0, none⟩ = some (.int .i64 m0.v.n) ∧ w'.cell? ⟨gv, 3, none⟩ = some (.int .i64 m1.v.n) ∧ w'.cell? ⟨gv, 6, none⟩ = some (.int .i64 m2.v.n) ∧ w'.cell? ⟨gv, 11, none⟩ = some (.slice m3.A m3.n m3.c))) := fun w' hb =>
      ⟨hb, (hb.cell (p := ⟨gv, 0, none⟩) hgv).trans d0, (hb.cell (p := ⟨gv, 3, none⟩) hgv).trans d3, (hb.cell (p := ⟨gv, 6, none⟩) hgv).trans d6, (hb.cell (p := ⟨gv, 11, none⟩) hgv).trans d11⟩
    have r0 := below_drew1 (Below.refl w2.heap.size w2)
    have hst := stB_row _ _ ⟨m0.v.n, m1.v.n, m2.v.n, m3.v.l⟩ m3.A m3.n m3.c _ (Bk.drawn1 (Bk.made w2 30 #[.int .i64 0, .int .i64 0, .int .i64 0, .slice none 0 0])) rfl
    have r1 := below_drew1 ((Below.refl w2.heap.size w2).alloc (Nat.le_refl _) (.cells #[.int .i64 0, .int .i64 0, .int .i64 0, .slice none 0 0] 30))
    have r2 := below_row r1 r1.size (Nat.le_refl _) #[.int .i64 m0.v.n, .int .i64 m1.v.n, .int .i64 m2.v.n, .slice m3.A m3.n m3.c]
    clear d0 d3 d6 d11
    go_wp2_with fail
    go_region_held3 (fun w' => Below w2.heap.size w2 w' ∧ w'.cell? ⟨gv, 0, none⟩ = some (.int .i64 m0.v.n) ∧ w'.cell? ⟨gv, 3, none⟩ = some (.int .i64 m1.v.n) ∧ w'.cell? ⟨gv, 6, none⟩ = some (.int .i64 m2.v.n) ∧ w'.cell? ⟨gv, 11, none⟩ = some (.slice m3.A m3.n m3.c)) (first | exact FS.out _ r0 | exact FS.out _ r1 | exact FS.out _ r2) (first | fail)
    all_goals
      have hb3 : Bk ((w2.alloc (.cells #[.int .i64 0, .int .i64 0, .int .i64 0, .slice none 0 0] 30)).drew.setRow w2.heap.size #[.int .i64 m0.v.n, .int .i64 m1.v.n, .int .i64 m2.v.n, .slice m3.A m3.n m3.c]) w2.heap.size 30 #[.int .i64 m0.v.n, .int .i64 m1.v.n, .int .i64 m2.v.n, .slice m3.A m3.n m3.c] := Bk.row (Bk.drawn1 (Bk.made w2 30 #[.int .i64 0, .int .i64 0, .int .i64 0, .slice none 0 0])) _
      clear hst r0 r1 FS
      have hB3 := r2
      have hk3 := hb3
      clear r2 hb3
      generalize (w2.alloc (.cells #[.int .i64 0, .int .i64 0, .int .i64 0, .slice none 0 0] 30)).drew.setRow w2.heap.size #[.int .i64 m0.v.n, .int .i64 m1.v.n, .int .i64 m2.v.n, .slice m3.A m3.n m3.c] = w3 at hB3 hk3 ⊢
      have hld := ldB_bk (b := ⟨m0.v.n, m1.v.n, m2.v.n, m3.v.l⟩) hk3
      have HR := Lib.hid (bRight_any ⟨m0.v.n, m1.v.n, m2.v.n, m3.v.l⟩ m3.A m3.n m3.c w3 (RdT.ext Hok.out hB3) w3 w3.heap.size (Below.refl _ _) (Nat.le_refl _))
      have HK3 := Lib.hid hk3
      have hz3 := Lib.hid (hz2.out.ext hB3)
      have HB3 := Lib.hid (HB2.out.trans (below_le HB2.out.size hB3))
      have HO3 := Lib.hid (RdT.ext Hok.out hB3)
      clear hk3 hB3
      cases hrt : rightB ⟨m0.v.n, m1.v.n, m2.v.n, m3.v.l⟩
      · rw [hrt] at HR
        go_wp2_with fail
        with_reducible refine HR.out.mono ?_
        rintro e w4 ⟨rfl, hb4⟩
        have hz4 := hz3.out.ext hb4
        have hst4 := stB_row _ _ noB none 0 0 _ hz4 rfl
        simp only [noB] at hst4
        have Hz4 := Lib.hid hz4
        clear hld hz4
        go_wp2_with (first | (go_at_call 39; refine (wrap_err (.no 2) _ _ _).mono ?_; rintro e w5 ⟨v5, rfl, he5, rfl⟩) | fail)
        have hgb : getB l = .error 2 := by
          unfold getB
          rw [Hga.out]
          show (if rightB (madeB (vsOf _)) = true then Except.ok (madeB (vsOf _)) else Except.error 2) = _
          rw [Hmade.out, hrt]
          rfl
        exact bodyPost_ret (res_bat (u := 3) rfl _ _ w.heap.size noB none 0 0 rfl (Hz4.out.row _)) rfl ⟨noB, none, 0, 0, v5, rfl, ⟨RdT.nil _, (fun ad h => by cases h), .inr ⟨rfl, _, 2, he5, hgb⟩⟩, below_row (HB3.out.trans (below_le HB3.out.size hb4)) (Nat.le_trans HB3.out.size hb4.size) (Nat.le_refl _) _⟩
      · rw [hrt] at HR
        go_wp2_with fail
        with_reducible refine HR.out.mono ?_
        rintro e w4 ⟨rfl, hb4⟩
        have hz4 := hz3.out.ext hb4
        have hld4 := ldB_bk (b := ⟨m0.v.n, m1.v.n, m2.v.n, m3.v.l⟩) (HK3.out.ext hb4)
        have hst4 := stB_row _ _ ⟨m0.v.n, m1.v.n, m2.v.n, m3.v.l⟩ m3.A m3.n m3.c _ hz4 rfl
        have Hz4 := Lib.hid hz4
        clear hld hz4
        go_wp2_with fail
        have hgb : getB l = .ok ⟨m0.v.n, m1.v.n, m2.v.n, m3.v.l⟩ := by
          unfold getB
          rw [Hga.out]
          show (if rightB (madeB (vsOf _)) = true then Except.ok (madeB (vsOf _)) else Except.error 2) = _
          rw [Hmade.out, hrt]
          rfl
        have hr4 : RdT (w4.setRow w.heap.size #[.int .i64 m0.v.n, .int .i64 m1.v.n, .int .i64 m2.v.n, .slice m3.A m3.n m3.c]) m3.A m3.n m3.c m3.v.l := RdT.kept (RdT.ext HO3.out hb4) (grown_row _ _ _) (fun ad e e2 => by
          have h1 := Hpr.out ad e
          have h2 := Hw1.out
          have := Option.some.inj e2
          omega)
        exact bodyPost_ret (res_bat (u := 3) rfl _ _ w.heap.size ⟨m0.v.n, m1.v.n, m2.v.n, m3.v.l⟩ m3.A m3.n m3.c rfl (Hz4.out.row _)) rfl ⟨⟨m0.v.n, m1.v.n, m2.v.n, m3.v.l⟩, m3.A, m3.n, m3.c, .nilIface, rfl, ⟨hr4, fun ad e => by have h1 := Hpr.out ad e; have h2 := Hw1.out; omega, .inl ⟨rfl, hgb⟩⟩, below_row (HB3.out.trans (below_le HB3.out.size hb4)) (Nat.le_trans HB3.out.size hb4.size) (Nat.le_refl _) _⟩
  · have hne := hk.ne
    have hgd := hk.guardN 13
    have hst4 := stB_row _ _ noB none 0 0 _ hz2.out rfl
    simp only [noB] at hst4
    have Hk := Lib.hid hk
    have hgb : Hid (getB l = .error k) := by
      show getB l = .error k
      unfold getB
      rw [hga]
    clear hk hga
    go_wp2_with (first | (go_at_call 39; refine (wrap_err Hk.out _ _ _).mono ?_; rintro e w5 ⟨v5, rfl, he5, rfl⟩) | fail)
    exact bodyPost_ret (res_bat (u := 3) rfl _ _ w.heap.size noB none 0 0 rfl (hz2.out.row _)) rfl ⟨noB, none, 0, 0, v5, rfl, ⟨RdT.nil _, (fun ad h => by cases h), .inr ⟨rfl, _, k, he5, hgb.out⟩⟩, below_row HB2.out HB2.out.size (Nat.le_refl _) _⟩
end Go.Proofs.YtkdlofgfkfhofaaGreatDoor
