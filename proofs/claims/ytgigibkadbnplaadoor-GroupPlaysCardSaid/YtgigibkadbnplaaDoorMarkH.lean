/-
  The document's marks: Set, where the mark is there.
-/
import Derived.Test.YtgigibkadbnplaaDoorMarkS
import Derived.Deep.WholeRow
namespace Go.Proofs.YtgigibkadbnplaaDoor
open Go.RowKit
attribute [local go_sem ↓] ldM_eq

def stM (v u : Value) : Sem Unit := Instr.storeAt 66 v u
theorem stM_eq (v u : Value) : Instr.storeAt 66 v u = stM v u := rfl
theorem flat_set : ∀ (l : List Mk) (k : Nat) (m : Mk), k < l.length → ((((l.flatMap Mk.cells).set (k * 4) (.string m.a)).set (k * 4 + 1) (.string m.t)).set (k * 4 + 1 + 1) (.int .i64 m.p)).set (k * 4 + 1 + 1 + 1) (.int .i64 m.o) = (l.set k m).flatMap Mk.cells
  | [], k, m, h => absurd h (Nat.not_lt_zero _)
  | m0 :: l, 0, m, _ => by
    simp only [List.flatMap_cons, List.set_cons_zero, Nat.zero_mul]
    rfl
  | m0 :: l, k + 1, m, h => by
    have ih := flat_set l k m (by simpa using h)
    rw [List.set_cons_succ, List.flatMap_cons, List.flatMap_cons, ← ih]
    have e : m0.cells.length = 4 := rfl
    rw [List.set_append_right _ _ (by omega), e, show (k + 1) * 4 - 4 = k * 4 by omega]
    rw [List.set_append_right _ _ (by omega), e, show (k + 1) * 4 + 1 - 4 = k * 4 + 1 by omega]
    rw [List.set_append_right _ _ (by omega), e, show (k + 1) * 4 + 1 + 1 - 4 = k * 4 + 1 + 1 by omega]
    rw [List.set_append_right _ _ (by omega), e, show (k + 1) * 4 + 1 + 1 + 1 - 4 = k * 4 + 1 + 1 + 1 by omega]
theorem OwnM.put {w : World} {B g n c : Nat} {l : List Mk} (h : OwnM w B (some ⟨g, 0, none⟩) n c l) (i : Nat) (hi : i < n) (m : Mk) :
    OwnM (w.setCells g (i * 4) m.cells) B (some ⟨g, 0, none⟩) n c (l.set i m) ∧ w.grownBy (w.setCells g (i * 4) m.cells) (some g) := by
  have hl := h.len
  have e := flat_set l i m (by omega)
  unfold Mk.cells World.setCells World.setCells World.setCells World.setCells World.setCells
  unfold OwnM at h ⊢
  obtain ⟨h1, g1⟩ := World.ownsRow.stored h (i * 4) (.string m.a)
  obtain ⟨h2, g2⟩ := World.ownsRow.stored h1 (i * 4 + 1) (.string m.t)
  obtain ⟨h3, g3⟩ := World.ownsRow.stored h2 (i * 4 + 1 + 1) (.int .i64 m.p)
  obtain ⟨h4, g4⟩ := World.ownsRow.stored h3 (i * 4 + 1 + 1 + 1) (.int .i64 m.o)
  rw [e] at h4
  exact ⟨h4, ((g1.trans g2).trans g3).trans g4⟩
theorem OwnM.there {w : World} {B g n c : Nat} {l : List Mk} (h : OwnM w B (some ⟨g, 0, none⟩) n c l) (i : Nat) (hi : i < n) : w.there g (i * 4) 4 := fun j hj => by
  have hl := h.1
  unfold OwnM at h
  rw [World.ownsRow.cellAt h (i * 4 + j) (by omega), World.ownsRow.frozenAt h]
  rw [List.getElem?_eq_getElem (by omega)]
  exact ⟨rfl, rfl⟩
theorem stM_at {w : World} {g o : Nat} (m : Mk) (h : w.there g o 4) : (stM (.pointer (some ⟨g, o, none⟩)) (.agg #[.string m.a, .string m.t, .int .i64 m.p, .int .i64 m.o])).run Tryd.prog w = .ok () (w.setCells g o m.cells) := by
  exact run_storeAt_mid w g o 66 m.cells.toArray h size_m (all_oneCell_toArray (one_m m))
theorem OwnM.flat {w : World} {B : Nat} {A : Option Addr} {n c : Nat} {l : List Mk} (h : OwnM w B A n c l) (hn : 0 < n) : ∃ g, A = some ⟨g, 0, none⟩ ∧ B ≤ g ∧ ∀ j u, (l.flatMap Mk.cells)[j]? = some u → w.cell? ((⟨g, 0, none⟩ : Addr).add j) = some u := by
  obtain ⟨g, cap, hv, _⟩ := World.ownsRow.form h hn
  injection hv with h1 h2 h3
  subst h1 h3
  exact ⟨g, rfl, (World.ownsRow.lt h g rfl).1, World.ownsRow.cells h rfl⟩
theorem RefG.stored {w w6 : World} {B rg n c : Nat} {A : Option Addr} {l : List Mk} {x : Value} (hrl : rg < w.heap.size) (hB : B ≤ w.heap.size) (hb : Below w.heap.size w w6) (hbk : Bk w6 rg 41 #[x]) (hO : OwnM w6 w.heap.size A n c l) :
    RefG (w6.setCell ⟨rg, 0, none⟩ (.slice A n c)) B rg A c l ∧ w.grownBy (w6.setCell ⟨rg, 0, none⟩ (.slice A n c)) (some rg) := by
  have hn := hO.len
  subst hn
  have hne : ∀ k, (Value.slice A l.length c).ownBlock = some k → k ≠ rg := fun k hk => by have := hO.ge k hk; omega
  refine ⟨⟨hbk.put 0 _, (hO.kept (grown_set _ _ _) (.inl (fun e => hne rg e rfl))).more hB, hne⟩, ((grown_of_below hb).but _).trans (grown_set _ _ _)⟩
attribute [local go_sem ↓] stM_eq
theorem stM_new (w : World) (m : Mk) : (stM (.pointer (some ⟨w.heap.size, 0, none⟩)) (.agg #[.string m.a, .string m.t, .int .i64 m.p, .int .i64 m.o])).run Tryd.prog (w.alloc (.cells #[.string ⟨#[]⟩, .string ⟨#[]⟩, .int .i64 0, .int .i64 0] 66)) = .ok () (w.alloc (.cells #[.string m.a, .string m.t, .int .i64 m.p, .int .i64 m.o] 66)) := by
  exact run_storeAt_new w 66 _ _ size_m rfl (all_oneCell_toArray (cs := m.cells) (one_m m))
theorem findM_lt {l : List Mk} {a t : ByteArray} {p : Int} {i : Nat} (h : findM l a t p = some i) : i < l.length := by
  unfold findM at h
  rw [List.findIdx?_eq_some_iff_getElem] at h
  exact h.1
set_option maxRecDepth 100000 in
set_option maxHeartbeats 2000000 in
theorem refSet_hit (B rg : Nat) (A : Option Addr) (c : Nat) (l : List Mk) (a t : ByteArray) (p o : Int) (w : World) (h : RefG w B rg A c l) (hBw : B ≤ w.heap.size) (hl : l.length ≤ 1000) (ha : nameOk a = true) (ht : nameOk t = true) (hp : 0 ≤ p) (hp' : p < 4) (ho : 0 ≤ o)
    (i : Nat) (hf : findM l a t p = some i) :
    Calls Tryd.prog 19 #[.pointer (some ⟨rg, 0, none⟩), .string a, .string t, .int .i64 p, .int .i64 o] w fun e w' => e = .returned (.int .i64 0) ∧ (∃ A' c', RefG w' B rg A' c' (l.set i ⟨a, t, p, o⟩)) ∧ w.grownBy w' (some rg) := by
  obtain ⟨ii, hi0, hz0, hs0, hb0⟩ := info_parts info_m
  have hN1 := Lib.hid (refName_at a w true (by have := nameOk_le ha; omega) ha)
  have hN2 := Lib.hid (refName_at t w true (by have := nameOk_le ht; omega) ht)
  have hb := below_new w (.cells #[.string a, .string t, .int .i64 p, .int .i64 o] 66)
  have h1 := h.ext hb
  have hF := find_any rg A l.length c l a t p _ h1.cell h1.own.reads
  rw [show findI l a t p = (i : Int) by unfold findI; rw [hf]] at hF
  have hi := findM_lt hf
  have hiI : (i : Int) < l.length := by omega
  have hrl := h.bk.lt
  have HF := Lib.hid hF
  have H1 := Lib.hid h1
  obtain ⟨g, rfl, hBg, _⟩ := h.own.flat (by omega)
  have HC1 := Lib.hid (fun j u (hu : (Mk.cells ⟨a, t, p, o⟩)[j]? = some u) => by
    have := cells_newm w 66 (0, 0) #[.string a, .string t, .int .i64 p, .int .i64 o] (Mk.cells ⟨a, t, p, o⟩) rfl w.heap.size rfl j u hu
    rwa [Addr.add_none] at this)
  have hnew := stM_new w ⟨a, t, p, o⟩
  clear hF h1 h ha ht hf
  go_enter Tryd.func19, Tryd.ntmps19
  go_wp2_with (first | (go_at_call 17; (with_reducible refine hN1.out.mono ?_); rintro e w1 ⟨rfl, rfl⟩; clear hN1) | (go_at_call 17; (with_reducible refine hN2.out.mono ?_); rintro e w2 ⟨rfl, rfl⟩; clear hN2) | (go_at_call 29; (with_reducible refine HF.out.mono ?_); rintro e w3 ⟨rfl, hb3⟩; have hr4 := (H1.out.ext hb3).ext (below_new w3 (.cells #[] 66)); have hc4 := hr4.cell; have HR4 := Lib.hid hr4; have HB3 := Lib.hid hb3; clear hr4 hb3) | (at_builtin; refine wpList_append_gen rfl (.tmp 46) (.tmp 50) 39 rfl 66 ii _ 4 48 Tryd.underlying39 hi0 hz0 hs0 hb0 rfl (by omega) (w2.heap.size + 1) (w2.alloc (.cells #[.string a, .string t, .int .i64 p, .int .i64 o] 66)) _ 0 [] rfl (World.ownsRow_made w3 #[] 0 ?_ (by unfold maxLen; omega) rfl) ⟨g, 0, none⟩ l.length c (l.flatMap Mk.cells) rfl (flat_len l) (World.ownsRow.cells HR4.out.own rfl) (fun u hu => by obtain ⟨m, _, h2⟩ := List.mem_flatMap.1 hu; exact one_m m u h2) (by unfold maxLen; omega) (by omega) ?_ ?_ ?_; (have := HB3.out.size; simpa using this); (have := HB3.out; simpa using this.trans (below_le this.size (below_new w3 (.cells #[] 66)))); (have := HB3.out.size; simp at this ⊢; omega); intro A5 c5 w5 ho5 hg5 hob5 hb5 hs5; have ho5' := ho5.out; rw [Nat.zero_add, List.nil_append] at ho5'; have hO5 : OwnM w5 (w2.heap.size + 1) A5 l.length c5 l := ho5'; obtain ⟨g5, rfl, hB5, _⟩ := hO5.flat (by omega); have hld5 := ldM_at (w := w5) (g := w2.heap.size) (o := 0) (m := ⟨a, t, p, o⟩) (fun j u hu => (hb5.cell (p := ⟨w2.heap.size, 0 + j, none⟩) (Nat.lt_succ_self _)).trans (HC1.out j u hu)); have hst5 := stM_at (w := w5) ⟨a, t, p, o⟩ (hO5.there i hi); obtain ⟨hO6, hg6⟩ := hO5.put i hi ⟨a, t, p, o⟩; have hbk6 := (H1.out.bk.below hb5 (by omega)).grown hg6 (by simp; omega); have hc6 := (hbk6.cell 0).trans rfl; have hf6 := hbk6.thaw 0; clear ho5 hg5 hob5 ho5'; have HO6 := Lib.hid hO6; have HG6 := Lib.hid hg6; have HK6 := Lib.hid hbk6; have HB5 := Lib.hid hb5; have HO5 := Lib.hid hO5; clear hO6 hg6 hbk6 hb5 hO5; generalize (w5.setCells g5 (i * 4) (Mk.cells ⟨a, t, p, o⟩)) = w6 at *) | fail)
  go_ret
  have hb6 : Below w2.heap.size w2 w6 := below_grown (hb.trans (below_le (Nat.le_succ _) HB5.out)) (by omega) HG6.out (by omega)
  obtain ⟨r1, r2⟩ := RefG.stored hrl hBw hb6 HK6.out (HO6.out.more (Nat.le_succ _))
  exact ⟨rfl, ⟨_, _, r1⟩, r2⟩
end Go.Proofs.YtgigibkadbnplaaDoor
