/-
  The document's marks: Forget.
-/
import Derived.Test.YtgigibkadbnplaaDoorMarkG
namespace Go.Proofs.YtgigibkadbnplaaDoor
open Go.RowKit
attribute [local go_sem ↓] ldM_eq

theorem info_m : (Tryd.prog.info? 66).map (fun i => (i.zero, i.size, i.bytes)) = some (some (.agg #[.string ⟨#[]⟩, .string ⟨#[]⟩, .int .i64 0, .int .i64 0]), 4, 48) := by kernel_rfl
theorem one_m (m : Mk) : ∀ u ∈ m.cells, u.oneCell' = true := fun u hu => by
  unfold Mk.cells at hu
  simp only [List.mem_cons, List.mem_nil_iff, or_false] at hu
  rcases hu with rfl | rfl | rfl | rfl <;> rfl
theorem OwnM.more {w : World} {B B' : Nat} {A : Option Addr} {n c : Nat} {l : List Mk} (h : OwnM w B' A n c l) (hB : B ≤ B') : OwnM w B A n c l :=
  ⟨h.1, h.2.imp id fun ⟨g, cap, cur, e1, e2, e3⟩ => ⟨g, cap, cur, e1, Nat.le_trans hB e2, e3⟩⟩
theorem OwnM.ge {w : World} {B : Nat} {A : Option Addr} {n c : Nat} {l : List Mk} (h : OwnM w B A n c l) : ∀ k, (Value.slice A n c).ownBlock = some k → B ≤ k := fun k hk => (World.ownsRow.lt h k hk).1
theorem cells_newm (w : World) (t : TypeId) (fr : Nat × Nat) (cs : Array Value) (news : List Value) (h : cs = news.toArray) (g : Nat) (hg : g = w.heap.size) : ∀ j u, news[j]? = some u → (w.alloc (.cells cs t fr)).cell? ((⟨g, 0, none⟩ : Addr).add j) = some u := by
  intro j u hu
  subst h hg
  rw [Addr.add_none, cell_of_row _ _ _ _ _ _ (heap_alloc_new w _), ← hu]
  simp
/-- the marks of other topics -/
def lessM (u : ByteArray) (l : List Mk) : List Mk := l.filter fun m => !decide (m.t = u)
theorem lessM_le (u : ByteArray) (l : List Mk) : (lessM u l).length ≤ l.length := List.length_filter_le _ _
theorem lessM_next {u : ByteArray} {l : List Mk} {k : Nat} {m : Mk} (hm : l[k]? = some m) : lessM u (l.take (k + 1)) = lessM u (l.take k) ++ (if m.t = u then [] else [m]) := by
  unfold lessM
  rw [List.take_add_one, hm, List.filter_append]
  congr 1
  by_cases h : m.t = u
  · simp [h]
  · simp [h]

set_option maxRecDepth 100000 in
set_option maxHeartbeats 4000000 in
theorem refForget_any (B rg : Nat) (A : Option Addr) (c : Nat) (l : List Mk) (u : ByteArray) (w : World) (h : RefG w B rg A c l) (hBw : B ≤ w.heap.size) (hl : l.length ≤ 1000) :
    Calls Tryd.prog 20 #[.pointer (some ⟨rg, 0, none⟩), .string u] w fun e w' => e = .returned (.int .i64 ((l.length : Int) - ((lessM u l).length : Int))) ∧ (∃ A' c', RefG w' B rg A' c' (lessM u l)) ∧ w.grownBy w' (some rg) := by
  obtain ⟨ii, hi0, hz0, hs0, hb0⟩ := info_parts info_m
  have hc0 := h.cell
  have hcap := h.own.reads.cap
  have hbig := h.own.reads.big
  have H := Lib.hid h
  have hbr := Below.refl w.heap.size w
  clear h
  go_enter Tryd.func20, Tryd.ntmps20
  go_wp2
  have HBr := Lib.hid hbr
  clear hbr hc0
  go_loopw [5, 14] (fun v i wr => ∃ (k : Nat) (A' : Option Addr) (N c' : Nat), k ≤ l.length ∧ i = .int .i64 k ∧ v = .slice A' N c' ∧ OwnM wr w.heap.size A' N c' (lessM u (l.take k)) ∧ Below w.heap.size w wr) (fun _ i _ => l.length - (intOf i).toNat)
  case atStart => exact ⟨0, none, 0, 0, Nat.zero_le _, rfl, rfl, OwnM.nil w _, HBr.out⟩
  case round =>
    obtain ⟨k, A', N, c', hk, rfl, rfl, hown, hbw⟩ := hrel
    have HO := Lib.hid hown
    have HBw := Lib.hid hbw
    clear hown hbw
    by_cases hlt : k < l.length
    · have hi : (k : Int) < l.length := by omega
      obtain ⟨m, hm⟩ : ∃ m, l[k]? = some m := ⟨l[k]'(by omega), List.getElem?_eq_getElem (by omega)⟩
      obtain ⟨g, rfl, hgl, hce⟩ := ((H.out.ext HBw.out).own.reads).cell k m hm
      have hld := ldM_at hce
      have hnx := Lib.hid (lessM_next (u := u) hm)
      have hse := str_eq m.t u
      clear hm hce
      have hld2 := ldM_at (w := wr.alloc (.cells #[.string m.a, .string m.t, .int .i64 m.p, .int .i64 m.o] 66)) (g := wr.heap.size) (o := 0) (m := m) (fun j u hu => by
        have := cells_newm wr 66 (0, 0) #[.string m.a, .string m.t, .int .i64 m.p, .int .i64 m.o] m.cells rfl wr.heap.size rfl j u hu
        rwa [Addr.add_none] at this)
      have hN : N ≤ 1000 := by
        have h1 := HO.out.len
        have h2 := lessM_le u (l.take k)
        rw [List.length_take] at h2
        omega
      have hsz := HBw.out.size
      by_cases hmt : m.t = u
      · rw [decide_eq_true hmt] at hse
        have hx := hnx.out
        rw [if_pos hmt, List.append_nil] at hx
        have HX := Lib.hid hx
        clear hx hld2
        go_wp2_with fail
        go_roundw
        case rel => exact ⟨k + 1, A', N, c', by omega, by go_num, rfl, by rw [HX.out]; exact HO.out.kept (grown_of_below (below_new wr _)) (.inr rfl), HBw.out.trans (below_le HBw.out.size (below_new wr _))⟩
        case measure => simp [intOf]; omega
      · rw [decide_eq_false hmt] at hse
        have hx := hnx.out
        rw [if_neg hmt] at hx
        have HX := Lib.hid hx
        clear hx
        go_wp2_with (first | (at_builtin; refine wpList_append_gen rfl (.tmp 22) (.tmp 24) 39 rfl 66 ii _ 4 48 Tryd.underlying39 hi0 hz0 hs0 hb0 rfl (by omega) w.heap.size w _ N ((lessM u (l.take k)).flatMap Mk.cells) rfl (World.ownsRow.alloc (World.ownsRow.alloc HO.out _) _) ⟨wr.heap.size + 1, 0, none⟩ 1 1 m.cells rfl rfl ?_ (one_m m) (by unfold maxLen; omega) (by omega) ((HBw.out.alloc hsz _).alloc (by simp; omega) _) (by simp; omega) ?_; (exact cells_newm _ _ _ _ _ rfl _ (by simp)); intro A3 c3 w3 ho3 hg3 hob3 hb3 hs3) | fail)
        refine ⟨⟨k + 1, A3, N + 1, c3, by omega, by go_num, rfl, ?_, hb3⟩, by simp [intOf]; omega⟩
        rw [HX.out]
        unfold OwnM
        rw [List.flatMap_append, show [m].flatMap Mk.cells = m.cells from by simp]
        exact ho3.out
    · obtain rfl : k = l.length := by omega
      have h1 := H.out.ext HBw.out
      have hc1 := h1.cell
      have hf1 := h1.bk.thaw 0
      have ho := HO.out
      rw [List.take_of_length_le (Nat.le_refl _)] at ho
      have hN := ho.len
      have hle := lessM_le u l
      subst hN
      have HO' := Lib.hid ho
      have HR1 := Lib.hid h1
      clear ho HO h1
      go_wp2_with fail
      go_ret
      have hrl := H.out.bk.lt
      have hne : ∀ k, (Value.slice A' (lessM u l).length c').ownBlock = some k → k ≠ rg := fun k hk => by have := HO'.out.ge k hk; omega
      have hsz := HBw.out.size
      refine ⟨rfl, ⟨A', c', ?_, ?_, hne⟩, ((grown_of_below HBw.out).but _).trans (grown_set _ _ _)⟩
      · have := HR1.out.bk.put 0 (.slice A' (lessM u l).length c')
        exact this
      · exact (HO'.out.kept (grown_set _ _ _) (.inl (fun e => hne rg e rfl))).more hBw
end Go.Proofs.YtgigibkadbnplaaDoor
