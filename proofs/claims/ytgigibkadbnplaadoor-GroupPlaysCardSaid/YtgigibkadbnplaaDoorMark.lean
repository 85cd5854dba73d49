/-
  The document's marks: a list in memory; find, Get.
-/
import Derived.Test.YtgigibkadbnplaaDoorRefName
import Derived.Test.YtgigibkadbnplaaDoorGrpDel
import Derived.Test.YtgigibkadbnplaaDoorOpen
import Derived.Deep.MidRow
namespace Go.Proofs.YtgigibkadbnplaaDoor
open Go.RowKit

/-- a mark -/
structure Mk where
  a : ByteArray
  t : ByteArray
  p : Int
  o : Int
def Mk.cells (m : Mk) : List Value := [.string m.a, .string m.t, .int .i64 m.p, .int .i64 m.o]
def Mk.hit (m : Mk) (a t : ByteArray) (p : Int) : Bool := decide (m.a = a) && decide (m.t = t) && decide (m.p = p)
/-- the slice reads as the marks l -/
structure RdM (w : World) (A : Option Addr) (n c : Nat) (l : List Mk) : Prop where
  len : l.length = n
  cap : n ≤ c
  big : c ≤ 9223372036854775807
  cell : ∀ k m, l[k]? = some m → ∃ g, A = some ⟨g, 0, none⟩ ∧ g < w.heap.size ∧ ∀ j u, m.cells[j]? = some u → w.cell? ⟨g, k * 4 + j, none⟩ = some u
theorem RdM.ext {w w' : World} {A : Option Addr} {n c : Nat} {l : List Mk} (h : RdM w A n c l) (hb : Below w.heap.size w w') : RdM w' A n c l :=
  ⟨h.len, h.cap, h.big, fun k m hk => by
    obtain ⟨g, h1, h2, h3⟩ := h.cell k m hk
    exact ⟨g, h1, Nat.lt_of_lt_of_le h2 hb.size, fun j u hu => (hb.cell (p := ⟨g, k * 4 + j, none⟩) h2).trans (h3 j u hu)⟩⟩
/-- the place of a mark -/
def findM (l : List Mk) (a t : ByteArray) (p : Int) : Option Nat := l.findIdx? (fun m => m.hit a t p)
def findI (l : List Mk) (a t : ByteArray) (p : Int) : Int := match findM l a t p with | some i => (i : Int) | none => -1
theorem findM_at {l : List Mk} {a t : ByteArray} {p : Int} {k : Nat} {m : Mk} (hm : l[k]? = some m) (hh : m.hit a t p = true) (hno : ∀ j m, j < k → l[j]? = some m → m.hit a t p = false) : findM l a t p = some k := by
  unfold findM
  rw [List.findIdx?_eq_some_iff_getElem]
  obtain ⟨hk, e⟩ := List.getElem?_eq_some_iff.1 hm
  refine ⟨hk, by rw [e]; exact hh, fun j hj => ?_⟩
  rw [hno j _ hj (List.getElem?_eq_getElem (by omega))]
  decide
theorem findM_none {l : List Mk} {a t : ByteArray} {p : Int} (hno : ∀ j m, j < l.length → l[j]? = some m → m.hit a t p = false) : findM l a t p = none := by
  unfold findM
  rw [List.findIdx?_eq_none_iff]
  intro m hm
  obtain ⟨j, hj⟩ := List.mem_iff_getElem?.1 hm
  exact hno j m (List.getElem?_eq_some_iff.1 hj).1 hj
def ldM (v : Value) : Sem Value := Instr.loadAt 66 v
theorem ldM_eq (v : Value) : Instr.loadAt 66 v = ldM v := rfl
theorem size_m : (Tryd.prog.info? 66).map (·.size) = some 4 := by kernel_rfl
theorem ldM_at {w : World} {g o : Nat} {m : Mk} (h : ∀ j u, m.cells[j]? = some u → w.cell? ⟨g, o + j, none⟩ = some u) : (ldM (.pointer (some ⟨g, o, none⟩))).run Tryd.prog w = .ok (.agg #[.string m.a, .string m.t, .int .i64 m.p, .int .i64 m.o]) w := by
  exact run_loadAt_mid w g o 66 m.cells _ h Tryd.underlying66 rfl size_m
theorem hit_cases (m : Mk) (a t : ByteArray) (p : Int) :
    ((m.a.toList == a.toList) = false ∧ m.hit a t p = false) ∨ ((m.a.toList == a.toList) = true ∧ (m.t.toList == t.toList) = false ∧ m.hit a t p = false) ∨ ((m.a.toList == a.toList) = true ∧ (m.t.toList == t.toList) = true ∧ (m.p == p) = false ∧ m.hit a t p = false)
    ∨ ((m.a.toList == a.toList) = true ∧ (m.t.toList == t.toList) = true ∧ (m.p == p) = true ∧ m.hit a t p = true) := by
  rw [str_eq, str_eq]
  unfold Mk.hit
  by_cases h1 : m.a = a
  · by_cases h2 : m.t = t
    · by_cases h3 : m.p = p
      · exact .inr (.inr (.inr ⟨by simp [h1], by simp [h2], by simp [h3], by simp [h1, h2, h3]⟩))
      · exact .inr (.inr (.inl ⟨by simp [h1], by simp [h2], by simp [h3], by simp [h3]⟩))
    · exact .inr (.inl ⟨by simp [h1], by simp [h2], by simp [h2]⟩)
  · exact .inl ⟨by simp [h1], by simp [h1]⟩
attribute [local go_sem ↓] ldM_eq
set_option maxRecDepth 100000 in
set_option maxHeartbeats 2000000 in
theorem find_any (rg : Nat) (A : Option Addr) (n c : Nat) (l : List Mk) (a t : ByteArray) (p : Int) (w : World) (hcell : w.cell? ⟨rg, 0, none⟩ = some (.slice A n c)) (h : RdM w A n c l) :
    Calls Tryd.prog 29 #[.pointer (some ⟨rg, 0, none⟩), .string a, .string t, .int .i64 p] w fun e w' => e = .returned (.int .i64 (findI l a t p)) ∧ Below w.heap.size w w' := by
  have hcap := h.cap
  have hbig := h.big
  have H := Lib.hid h
  have hb0 := Below.refl w.heap.size w
  clear h
  go_enter Tryd.func29, Tryd.ntmps29
  go_wp2
  have HB0 := Lib.hid hb0
  clear hb0 hcell
  go_loopw [16] (fun i wr => ∃ k : Nat, k ≤ n ∧ i = .int .i64 k ∧ (∀ j m, j < k → l[j]? = some m → m.hit a t p = false) ∧ Below w.heap.size w wr) (fun i _ => n - (intOf i).toNat)
  case atStart => exact ⟨0, Nat.zero_le _, rfl, fun j m hj => absurd hj (Nat.not_lt_zero _), HB0.out⟩
  case round =>
    obtain ⟨k, hk, rfl, hno, hbw⟩ := hrel
    have HNo := Lib.hid hno
    have HBw := Lib.hid hbw
    clear hno hbw
    have hll := H.out.len
    by_cases hlt : k < n
    · have hi : (k : Int) < n := by omega
      obtain ⟨m, hm⟩ : ∃ m, l[k]? = some m := ⟨l[k]'(by omega), List.getElem?_eq_getElem (by omega)⟩
      obtain ⟨g, rfl, hgl, hce⟩ := (H.out.ext HBw.out).cell k m hm
      have hld := ldM_at hce
      have hcs := hit_cases m a t p
      have HM := Lib.hid hm
      clear hm hce hll
      rcases hcs with ⟨h1, h2⟩ | ⟨h1, h2, h3⟩ | ⟨h1, h2, h3, h4⟩ | ⟨h1, h2, h3, h4⟩
      · go_wp2_with fail
        have hba := HBw.out.trans (below_le HBw.out.size (below_new wr (.cells #[.string m.a, .string m.t, .int .i64 m.p, .int .i64 m.o] 66)))
        refine ⟨⟨k + 1, by omega, by go_num, fun j m' hj hm' => ?_, hba⟩, by simp [intOf]; omega⟩
        by_cases hjk : j < k
        · exact HNo.out j m' hjk hm'
        · obtain rfl : j = k := by omega
          rw [HM.out] at hm'
          obtain rfl := Option.some.inj hm'
          assumption
      · go_wp2_with fail
        have hba := HBw.out.trans (below_le HBw.out.size (below_new wr (.cells #[.string m.a, .string m.t, .int .i64 m.p, .int .i64 m.o] 66)))
        refine ⟨⟨k + 1, by omega, by go_num, fun j m' hj hm' => ?_, hba⟩, by simp [intOf]; omega⟩
        by_cases hjk : j < k
        · exact HNo.out j m' hjk hm'
        · obtain rfl : j = k := by omega
          rw [HM.out] at hm'
          obtain rfl := Option.some.inj hm'
          assumption
      · go_wp2_with fail
        have hba := HBw.out.trans (below_le HBw.out.size (below_new wr (.cells #[.string m.a, .string m.t, .int .i64 m.p, .int .i64 m.o] 66)))
        refine ⟨⟨k + 1, by omega, by go_num, fun j m' hj hm' => ?_, hba⟩, by simp [intOf]; omega⟩
        by_cases hjk : j < k
        · exact HNo.out j m' hjk hm'
        · obtain rfl : j = k := by omega
          rw [HM.out] at hm'
          obtain rfl := Option.some.inj hm'
          assumption
      · go_wp2_with fail
        go_ret
        have hba := HBw.out.trans (below_le HBw.out.size (below_new wr (.cells #[.string m.a, .string m.t, .int .i64 m.p, .int .i64 m.o] 66)))
        refine ⟨?_, hba⟩
        have hf := findM_at HM.out h4 HNo.out
        unfold findI
        rw [hf]
        rfl
    · obtain rfl : k = n := by omega
      have hf : findM l a t p = none := findM_none (fun j m hj => HNo.out j m (by omega))
      have Hf := Lib.hid hf
      clear hf hll
      go_wp2_with fail
      go_ret
      refine ⟨?_, HBw.out⟩
      unfold findI
      rw [Hf.out]
      rfl
end Go.Proofs.YtgigibkadbnplaaDoor
