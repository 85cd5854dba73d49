/-
  gram: Get.
-/
import Derived.Test.YtjodiieeocaipaaGreatDoorECurs
namespace Go.Proofs.YtjodiieeocaipaaGreatDoor
open Go.RowKit
attribute [local go_sem ↓] ldF_eq stF_eq ldV_eq stV_eq

theorem value_any (f : Fld) (hf : f ∈ someF) (g : Nat) (A : Option Addr) (n c : Nat) (l : List UInt8) (p : Nat) (w : World) (hr : RdB w A n c l) (hc : Cur w g A n c p 0) (hp : p ≤ n) (hA : ∀ ad, A = some ad → 0 < n → ad.block ≠ g) :
    Calls Tryz.prog 132 #[.pointer (some ⟨g, 0, none⟩), .agg #[.int .i64 f.kind, .int .i64 f.size, .int .i64 f.lo, .int .i64 f.hi, .int .i64 f.most]] w fun e w' => ∃ (m : MVal) (p' : Nat) (b' : Int), e = .returned (.agg #[.int .i64 m.v.n, .string m.v.s, .slice m.A m.n m.c]) ∧ m.ok w' ∧ (∀ ad, m.A = some ad → w.heap.size ≤ ad.block ∧ ad.block < w'.heap.size) ∧ Cur w' g A n c p' b' ∧ w.grownBy w' (some g) ∧ p' ≤ n ∧ ValueR f l p m.v p' b' := by
  unfold someF at hf
  simp only [List.mem_cons, List.not_mem_nil, or_false] at hf
  rcases hf with rfl | rfl | rfl | rfl | rfl | rfl | rfl | rfl | rfl
  · exact value_text g A n c l p 0 1 24 0 w hr hc hp (by decide) (by decide) hA (by decide)
  · exact value_text g A n c l p 0 1 600 0 w hr hc hp (by decide) (by decide) hA (by decide)
  · exact value_num g A n c l p 1 1 1 4 0 rfl w hr hc hp (by decide) (by decide) (by decide) (by decide)
  · exact value_num g A n c l p 1 1 0 3 0 rfl w hr hc hp (by decide) (by decide) (by decide) (by decide)
  · exact value_num g A n c l p 8 8 0 _ 0 rfl w hr hc hp (by decide) (by decide) (by decide) (by decide)
  · exact value_num g A n c l p 8 8 0 _ 0 rfl w hr hc hp (by decide) (by decide) (by decide) (by decide)
  · exact value_num g A n c l p 4 4 0 _ 0 rfl w hr hc hp (by decide) (by decide) (by decide) (by decide)
  · exact value_num g A n c l p 8 8 0 _ 0 rfl w hr hc hp (by decide) (by decide) (by decide) (by decide)
  · exact value_texts g A n c l p 0 1 8 60 w hr hc hp (by decide) (by decide) hA (by decide) (by decide) (by decide)
theorem stV_new (w : World) (m : MVal) : (stV (.pointer (some ⟨w.heap.size, 0, none⟩)) (.agg #[.int .i64 m.v.n, .string m.v.s, .slice m.A m.n m.c])).run Tryz.prog (w.alloc (.cells #[.int .i64 0, .string ⟨#[]⟩, .slice none 0 0] 150)) = .ok () (w.alloc (.cells #[.int .i64 m.v.n, .string m.v.s, .slice m.A m.n m.c] 150)) := by
  exact run_storeAt_new w 150 _ _ size_v rfl (all_oneCell_toArray (cs := m.cells) (one_v m))
theorem RdT.kept {w w' : World} {A : Option Addr} {n c : Nat} {l : List ByteArray} {row : Option Nat} (h : RdT w A n c l) (hg : w.grownBy w' row) (hne : ∀ ad, A = some ad → row ≠ some ad.block) : RdT w' A n c l :=
  ⟨Rd.len h, Rd.cap h, Rd.big h, fun k u hu => by
    obtain ⟨ad, e, hlt, hc⟩ := Rd.cell h k u hu
    exact ⟨ad, e, Nat.lt_of_lt_of_le hlt hg.size, hg.cell hc (fun e2 => hne ad e (by rw [add_block] at e2; exact e2.symm))⟩⟩
theorem Bk.keptO {w w' : World} {b : Nat} {t : TypeId} {cs : Array Value} {row : Option Nat} (h : Bk w b t cs) (hg : w.grownBy w' row) (hne : row ≠ some b) : Bk w' b t cs := by
  have hlt := h.lt
  unfold Bk at h ⊢
  rw [hg.block b hlt (fun e => hne e.symm)]
  exact h
/-- a value read: its texts lie apart -/
structure Sep (w : World) (g : Nat) (ob : Option Nat) (m : MVal) : Prop where
  ok : m.ok w
  at_ : ∀ ad, m.A = some ad → g < ad.block ∧ ad.block < w.heap.size ∧ ob ≠ some ad.block
theorem Sep.ext {w w' : World} {g : Nat} {ob : Option Nat} {m : MVal} (h : Sep w g ob m) (hb : Below w.heap.size w w') : Sep w' g ob m :=
  ⟨MVal.ext h.ok hb, fun ad e => by obtain ⟨a, b, d⟩ := h.at_ ad e; exact ⟨a, Nat.lt_of_lt_of_le b hb.size, d⟩⟩
theorem Sep.grown {w w' : World} {g : Nat} {ob row : Option Nat} {m : MVal} (h : Sep w g ob m) (hg : w.grownBy w' row) (hr : row = some g ∨ row = ob) : Sep w' g ob m :=
  ⟨RdT.kept h.ok hg (fun ad e => by
    obtain ⟨a, _, d⟩ := h.at_ ad e
    rcases hr with rfl | rfl
    · intro e2; have := Option.some.inj e2; omega
    · exact d), fun ad e => by obtain ⟨a, b, d⟩ := h.at_ ad e; exact ⟨a, Nat.lt_of_lt_of_le b hg.size, d⟩⟩
theorem Sep.own {w : World} {g N : Nat} {ob ob' : Option Nat} {m : MVal} (h : Sep w g ob m) (hN : ∀ ad, m.A = some ad → ad.block < N) (ho : ob' = ob ∨ ob' = some N) : Sep w g ob' m :=
  ⟨h.ok, fun ad e => by
    obtain ⟨a, b, d⟩ := h.at_ ad e
    refine ⟨a, b, ?_⟩
    rcases ho with rfl | rfl
    · exact d
    · intro e2; have := Option.some.inj e2; have := hN ad e; omega⟩
/-- Get's two results -/
def GetR (fs : List Fld) (l : List UInt8) (B : Nat) (w' : World) (A : Option Addr) (n c : Nat) (v : Value) : Prop :=
  (∃ ms, v = .nilIface ∧ RdV w' A n c ms ∧ getAll fs l = .ok (vsOf ms) ∧ ∀ m ∈ ms, ∀ ad, m.A = some ad → B ≤ ad.block) ∨ (∃ k, IsErr 1 v k ∧ getAll fs l = .error k)
/-- the state of Get's loop -/
def GtR (fs : List Fld) (l : List UInt8) (k : Nat) (vs : List Val) (p : Nat) : Prop :=
  getAll fs l = (match getAll (fs.drop k) (l.drop p) with | .ok v2 => .ok (vs ++ v2) | .error e => .error e)
theorem getAll_cons (f : Fld) (fs : List Fld) (bs : List UInt8) : getAll (f :: fs) bs = (match getV f bs with
    | .error e => .error e
    | .ok (v, r) => match getAll fs r with
      | .error e => .error e
      | .ok vs => .ok (v :: vs)) := by cases bs <;> rfl
theorem GtR.start {fs : List Fld} {l : List UInt8} : GtR fs l 0 [] 0 := by
  unfold GtR
  rw [List.drop_zero, List.drop_zero]
  cases getAll fs l with
  | ok x => simp
  | error e => rfl
theorem GtR.next {fs : List Fld} {l : List UInt8} {k : Nat} {vs : List Val} {p p' : Nat} {f : Fld} {v : Val} (h : GtR fs l k vs p) (hf : fs[k]? = some f) (hv : getV f (l.drop p) = .ok (v, l.drop p')) : GtR fs l (k + 1) (vs ++ [v]) p' := by
  unfold GtR at h ⊢
  obtain ⟨hk, e⟩ := List.getElem?_eq_some_iff.1 hf
  rw [List.drop_eq_getElem_cons hk, e, getAll_cons, hv] at h
  simp only at h
  rw [h]
  cases getAll (fs.drop (k + 1)) (l.drop p') with
  | ok x => simp
  | error e => rfl
theorem GtR.bad {fs : List Fld} {l : List UInt8} {k : Nat} {vs : List Val} {p : Nat} {f : Fld} {e0 : Int} (h : GtR fs l k vs p) (hf : fs[k]? = some f) (hv : getV f (l.drop p) = .error e0) : getAll fs l = .error e0 := by
  unfold GtR at h
  obtain ⟨hk, e⟩ := List.getElem?_eq_some_iff.1 hf
  rw [List.drop_eq_getElem_cons hk, e, getAll_cons, hv] at h
  exact h
set_option maxRecDepth 100000 in
set_option maxHeartbeats 4000000 in
theorem fget_any (A : Option Addr) (n c : Nat) (fs : List Fld) (Ab : Option Addr) (nb cb : Nat) (l : List UInt8) (w : World) (hf : ∀ f ∈ fs, f ∈ someF) (h : RdF w A n c fs) (hb : RdB w Ab nb cb l) (hn : n ≤ 100) :
    Calls Tryz.prog 107 #[.slice A n c, .slice Ab nb cb] w fun e w' => ∃ A' n' c' v, e = .returned (.tuple #[.slice A' n' c', v]) ∧ GetR fs l w.heap.size w' A' n' c' v ∧ Below w.heap.size w w' := by
  obtain ⟨ii, hi0, hz0, hs0, hy0⟩ := info_parts info_v
  have hW := Lib.hid (wrong_any A n c fs hf w h)
  have hcap := h.cap
  have hbig := h.big
  have hlen := h.len
  rw [List.length_map] at hlen
  have HL := Lib.hid hlen
  have H := Lib.hid h
  have HBs := Lib.hid hb
  have HF := Lib.hid hf
  have HI := Lib.hid hi0
  have HZ := Lib.hid hz0
  have HS := Lib.hid hs0
  have HY := Lib.hid hy0
  clear h hf hlen hb hi0 hz0 hs0 hy0
  go_enter Tryz.func107, Tryz.ntmps107
  go_wp2_with (first | (go_at_call 71; (with_reducible refine hW.out.mono ?_); rintro e w1 ⟨rfl, hb1⟩) | fail)
  have HB1 := Lib.hid hb1
  have HC1 := Lib.hid (show Cur (w1.alloc (.cells #[.slice Ab nb cb, .int .i64 0, .int .i64 0] 235)) w1.heap.size Ab nb cb 0 0 from Bk.made w1 _ _)
  have hB2 := Lib.hid (hb1.alloc hb1.size (.cells #[.slice Ab nb cb, .int .i64 0, .int .i64 0] 235))
  have HA := Lib.hid (show ∀ ad, Ab = some ad → 0 < nb → ad.block ≠ w1.heap.size from fun ad e h0 e2 => by
    obtain ⟨ad', e3, hlt, _⟩ := Rd.get HBs.out h0
    rw [e] at e3
    injection e3 with e3
    subst e3
    have := HB1.out.size
    omega)
  clear hb1 hW
  go_loopw [8, 25] (fun o i wr => ∃ (k : Nat) (ms : List MVal) (A3 : Option Addr) (c3 pj : Nat), k ≤ n ∧ i = .int .i64 k ∧ o = .slice A3 k c3 ∧ Hid (wr.ownsRow (w1.heap.size + 1) 150 3 (.slice A3 k c3) k (ms.flatMap MVal.cells)) ∧ Hid (∀ m ∈ ms, Sep wr w1.heap.size (Value.slice A3 k c3).ownBlock m) ∧ Hid (Cur wr w1.heap.size Ab nb cb pj 0) ∧ Hid (Below w.heap.size w wr) ∧ Hid (w1.heap.size < wr.heap.size) ∧ pj ≤ nb ∧ Hid (GtR fs l k (vsOf ms) pj)) (fun _ i _ => n - (intOf i).toNat)
  case atStart => exact ⟨0, [], none, 0, 0, Nat.zero_le _, rfl, rfl, World.ownsRow_nil _ _ _ _, fun m hm => absurd hm List.not_mem_nil, HC1.out, hB2.out, by show _ < _; simp, Nat.zero_le _, GtR.start⟩
  case round =>
    obtain ⟨k, ms, A3, c3, pj, hk, rfl, rfl, hOwn, hSep, hCur, hBl, hGs, hpj, hGt⟩ := hrel
    by_cases hlt : k < n
    · have hi : (k : Int) < n := by omega
      obtain ⟨f, hfk⟩ : ∃ f, fs[k]? = some f := ⟨fs[k]'(by have := HL.out; omega), List.getElem?_eq_getElem _⟩
      obtain ⟨g, rfl, hgl, hce⟩ := (H.out.ext hBl.out).cell k f.cells (by rw [List.getElem?_map, hfk]; rfl)
      have hld := ldF_at hce
      have hst := stF_new wr f
      have hbn := below_new wr (.cells #[.int .i64 f.kind, .int .i64 f.size, .int .i64 f.lo, .int .i64 f.hi, .int .i64 f.most] 154)
      have hld2 := ldF_bk (f := f) (Bk.made wr 154 #[.int .i64 f.kind, .int .i64 f.size, .int .i64 f.lo, .int .i64 f.hi, .int .i64 f.most])
      have c1 := Cur.c1 (show Cur (wr.alloc (.cells #[.int .i64 f.kind, .int .i64 f.size, .int .i64 f.lo, .int .i64 f.hi, .int .i64 f.most] 154)) w1.heap.size Ab nb cb pj 0 from Bk.ext hCur.out hbn)
      have hVl := Lib.hid (value_any f (HF.out f (List.mem_of_getElem? hfk)) w1.heap.size Ab nb cb l pj _ (HBs.out.ext (hBl.out.trans (below_le hBl.out.size hbn))) (Bk.ext hCur.out hbn) hpj HA.out)
      have Hfk := Lib.hid hfk
      have Hbn := Lib.hid hbn
      clear hce hfk hbn
      go_wp2_with fail
      with_reducible refine hVl.out.mono ?_
      rintro e w2 ⟨m, p2, b2, rfl, hok2, hat2, hc2, hg2, hp2, hv2⟩
      have bMn := below_new w2 (.cells #[.int .i64 m.v.n, .string m.v.s, .slice m.A m.n m.c] 150)
      have cbad := Cur.c2 (show Cur (w2.alloc (.cells #[.int .i64 m.v.n, .string m.v.s, .slice m.A m.n m.c] 150)) w1.heap.size Ab nb cb p2 b2 from Bk.ext hc2 bMn)
      have HC2 := Lib.hid hc2
      have hst2 := stV_new w2 m
      have hB2 : Below w.heap.size w w2 := by
        have b1 := hBl.out.trans (below_le hBl.out.size Hbn.out)
        exact below_grown b1 b1.size hg2 (by have := HB1.out.size; omega)
      have hgs2 : w1.heap.size < w2.heap.size := Nat.lt_of_lt_of_le (Nat.lt_of_lt_of_le hGs.out Hbn.out.size) hg2.size
      have hOwn2 : w2.ownsRow (w1.heap.size + 1) 150 3 (.slice A3 k c3) k (ms.flatMap MVal.cells) := World.ownsRow.kept (World.ownsRow.alloc hOwn.out _) hg2 (.inr (own_not hOwn.out (Nat.lt_succ_self _)))
      have hSep2 : ∀ x ∈ ms, Sep w2 w1.heap.size (Value.slice A3 k c3).ownBlock x := fun x hx => ((hSep.out x hx).ext Hbn.out).grown hg2 (.inl rfl)
      have hob : ∀ j, (Value.slice A3 k c3).ownBlock = some j → j < wr.heap.size := fun j hj => (World.ownsRow.lt hOwn.out j hj).2
      have hSm : Sep w2 w1.heap.size (Value.slice A3 k c3).ownBlock m := ⟨hok2, fun ad e => by
        obtain ⟨a1, a2⟩ := hat2 ad e
        have a3 := Hbn.out.size
        have a4 := hGs.out
        refine ⟨by omega, a2, fun e2 => ?_⟩
        have := hob _ e2
        omega⟩
      have HB2 := Lib.hid hB2
      have HGs2 := Lib.hid hgs2
      have HOwn2 := Lib.hid hOwn2
      have HSep2 := Lib.hid hSep2
      have HSm := Lib.hid hSm
      have Hv2 := Lib.hid hv2
      have HbMn := Lib.hid bMn
      clear hc2 hVl hok2 hat2 hg2 hv2 hB2 hgs2 hOwn2 hSep2 hSm hob c1 bMn
      rcases Hv2.out with ⟨rfl, hv3⟩ | ⟨hb3, hv3⟩
      · have hld3 := ldV_bk (m := m) (Bk.made w2 150 #[.int .i64 m.v.n, .string m.v.s, .slice m.A m.n m.c])
        have Hv3 := Lib.hid hv3
        clear hv3
        go_wp2_with (first | (at_builtin; refine wpList_append_gen rfl (.tmp 48) (.tmp 50) 99 rfl 150 ii _ 3 48 Tryz.underlying99 HI.out HZ.out HS.out HY.out rfl (by omega) (w1.heap.size + 1) ((w2.alloc (.cells #[.int .i64 m.v.n, .string m.v.s, .slice m.A m.n m.c] 150)).alloc (.cells #[.int .i64 m.v.n, .string m.v.s, .slice m.A m.n m.c] 150)) _ k (ms.flatMap MVal.cells) rfl (World.ownsRow.alloc (World.ownsRow.alloc HOwn2.out _) _) ⟨w2.heap.size + 1, 0, none⟩ 1 1 m.cells rfl rfl (cells_newm _ _ (0, 0) _ _ rfl _ (by simp)) (one_v m) (by unfold maxLen; omega) (by omega) (Below.refl _ _) (by simp; have := HGs2.out; omega) ?_; intro A5 c5 w5 ho5 hg5 hob5 hb5 hs5) | fail)
        have HW2 := Lib.hid (HbMn.out.trans (below_le (by simp) (below_new (w2.alloc (.cells #[.int .i64 m.v.n, .string m.v.s, .slice m.A m.n m.c] 150)) (.cells #[.int .i64 m.v.n, .string m.v.s, .slice m.A m.n m.c] 150))))
        have hgp := own_not HOwn2.out (Nat.lt_succ_self _)
        have q1 : Cur w5 w1.heap.size Ab nb cb p2 0 := Bk.keptO (Bk.ext HC2.out HW2.out) hg5.out hgp
        have q2 : Below w.heap.size w w5 := (HB2.out.trans (below_le HB2.out.size HW2.out)).trans (below_le (by have := HB1.out.size; omega) hb5)
        have q3 : ∀ x, Sep w2 w1.heap.size (Value.slice A3 k c3).ownBlock x → Sep w5 w1.heap.size (Value.slice A5 (k + 1) c5).ownBlock x := fun x hx =>
          ((hx.ext HW2.out).grown hg5.out (.inr rfl)).own (fun ad e => ((hx.ext HW2.out).at_ ad e).2.1) hob5.out
        have q4 : ∀ x ∈ ms ++ [m], Sep w5 w1.heap.size (Value.slice A5 (k + 1) c5).ownBlock x := fun x hx => by
          rcases List.mem_append.1 hx with hx | hx
          · exact q3 x (HSep2.out x hx)
          · rw [List.mem_singleton] at hx
            subst hx
            exact q3 _ HSm.out
        have q5 : w5.ownsRow (w1.heap.size + 1) 150 3 (.slice A5 (k + 1) c5) (k + 1) ((ms ++ [m]).flatMap MVal.cells) := by
          rw [List.flatMap_append, show [m].flatMap MVal.cells = m.cells from by simp]
          exact ho5.out
        have q6 : GtR fs l (k + 1) (vsOf (ms ++ [m])) p2 := by
          unfold vsOf
          rw [List.map_append]
          exact hGt.out.next Hfk.out Hv3.out
        exact ⟨⟨k + 1, ms ++ [m], A5, c5, p2, by omega, by go_num, rfl, q5, q4, q1, q2, by show _ < _; omega, hp2, q6⟩, by simp [intOf]; omega⟩
      · have hb4 : (b2 != 0) = true := by rw [bne_iff_ne]; exact hb3
        have Hv3 := Lib.hid hv3
        clear hv3 hb3
        go_wp2_with (first | (go_at_call 26; refine (wrap_err (.no b2) _ _ _).mono ?_; rintro e w4 ⟨v4, rfl, he4, rfl⟩) | fail)
        go_ret2
        exact ⟨_, _, _, _, rfl, .inr ⟨b2, he4, hGt.out.bad Hfk.out Hv3.out⟩, HB2.out.trans (below_le HB2.out.size HbMn.out)⟩
    · obtain rfl : k = n := by omega
      have c1 := Cur.c1 hCur.out
      have hlb := HBs.out.len
      have hdr : fs.drop k = [] := List.drop_of_length_le (by have := HL.out; omega)
      have hgt := hGt.out
      unfold GtR at hgt
      rw [hdr] at hgt
      have Hgt := Lib.hid hgt
      clear hgt hdr
      by_cases hp : pj < nb
      · have hp' : (pj : Int) < nb := by omega
        obtain ⟨x, r, hx⟩ : ∃ x r, l.drop pj = x :: r := by
          cases hd : l.drop pj with
          | nil => have := congrArg List.length hd; rw [List.length_drop] at this; simp at this; omega
          | cons x r => exact ⟨x, r, rfl⟩
        have Hx := Lib.hid hx
        clear hx
        go_wp2_with (first | (go_at_call 26; refine (wrap_err (.no 4) _ _ _).mono ?_; rintro e w4 ⟨v4, rfl, he4, rfl⟩) | fail)
        go_ret2
        refine ⟨_, _, _, _, rfl, .inr ⟨4, he4, ?_⟩, hBl.out⟩
        rw [Hgt.out, Hx.out]
        rfl
      · have hp' : ¬ ((pj : Int) < nb) := by omega
        have hx : Hid (l.drop pj = []) := List.drop_of_length_le (by omega)
        go_wp2_with fail
        go_ret2
        refine ⟨_, _, _, _, rfl, .inl ⟨ms, rfl, ⟨RdK.of_own MVal.cells m3 (by omega) ms hOwn.out, fun m hm => (hSep.out m hm).ok⟩, ?_, fun m hm ad e => by have := ((hSep.out m hm).at_ ad e).1; have := HB1.out.size; omega⟩, hBl.out⟩
        rw [Hgt.out, hx.out]
        show Except.ok (_ ++ []) = _
        rw [List.append_nil]
end Go.Proofs.YtjodiieeocaipaaGreatDoor
