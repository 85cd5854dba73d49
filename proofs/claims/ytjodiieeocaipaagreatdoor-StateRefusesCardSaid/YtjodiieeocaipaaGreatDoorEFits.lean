/-
  gram: fits.
-/
import Derived.Test.YtjodiieeocaipaaGreatDoorEGram
namespace Go.Proofs.YtjodiieeocaipaaGreatDoor
open Go.RowKit
attribute [local go_sem ↓] ldF_eq ldV_eq

set_option maxRecDepth 100000 in
theorem fits1_any (s : ByteArray) (g : Nat) (m : Int) (w : World) (hc : w.cell? ⟨g, 4, none⟩ = some (.int .i64 m)) :
    Calls Tryz.prog 105 #[.string s, .pointer (some ⟨g, 0, none⟩)] w fun e w' => e = .returned (.bool (decide (m < (s.size : Int)))) ∧ w = w' := by
  go_enter Tryz.func105, Tryz.ntmps105
  go_wp2
  go_ret
  exact ⟨rfl, rfl⟩
def longS (m : Int) (l : List ByteArray) : Bool := l.any fun s => decide (m < (s.size : Int))
set_option maxRecDepth 100000 in
set_option maxHeartbeats 400000 in
theorem longI_any (A : Option Addr) (n c : Nat) (l : List ByteArray) (g : Nat) (m : Int) (w : World) (h : RdT w A n c l) (hc : w.cell? ⟨g, 4, none⟩ = some (.int .i64 m)) :
    Calls Tryz.prog 131 #[.slice A n c, .func (.func 105) #[] #[.pointer (some ⟨g, 0, none⟩)]] w fun e w' => ∃ i : Int, e = .returned (.int .i64 i) ∧ decide (0 ≤ i) = longS m l ∧ w = w' := by
  have hcap := Rd.cap h
  have hbig := Rd.big h
  have HL := Lib.hid h.len
  have H := Lib.hid h
  have hF := Lib.hid (fun s => fits1_any s g m w hc)
  clear h hc
  go_enter Tryz.func131, Tryz.ntmps131
  go_wp2
  go_loop [8] (fun i => ∃ k : Nat, k ≤ n ∧ i = .int .i64 k ∧ longS m (l.take k) = false) (fun i => n - (intOf i).toNat)
  case atStart => exact ⟨0, Nat.zero_le _, rfl, rfl⟩
  case round =>
    obtain ⟨k, hk, rfl, hno⟩ := hrel
    have HN := Lib.hid hno
    clear hno
    by_cases hlt : k < n
    · have hi : (k : Int) < n := by omega
      have hkl : k < l.length := by have := HL.out; omega
      obtain ⟨s, hs⟩ : ∃ s, l[k]? = some s := ⟨l[k], List.getElem?_eq_getElem hkl⟩
      obtain ⟨ad, rfl, _, hce⟩ := Rd.cell H.out k (.string s) (by rw [List.getElem?_map, hs]; rfl)
      have HS := Lib.hid hs
      clear hs
      have hst : Hid (longS m (l.take (k + 1)) = decide (m < (s.size : Int))) := by
        show longS m (l.take (k + 1)) = _
        have h2 := HN.out
        unfold longS at h2 ⊢
        rw [List.take_add_one, HS.out, List.any_append, h2]
        simp
      by_cases hm : m < (s.size : Int)
      · have hF1 : Calls Tryz.prog 105 #[.string s, .pointer (some ⟨g, 0, none⟩)] w fun e w' => e = .returned (.bool true) ∧ w = w' := by have := hF.out s; rw [decide_eq_true hm] at this; exact this
        have HF1 := Lib.hid hF1
        clear hF1
        go_wp2_with (first | (go_at_call 105; refine HF1.out.mono ?_; rintro e w1 ⟨rfl, rfl⟩) | fail)
        go_ret
        refine ⟨_, rfl, ?_, rfl⟩
        have h3 : longS m (l.take (k + 1)) = true := by rw [hst.out, decide_eq_true hm]
        rw [decide_eq_true (by omega)]
        unfold longS at h3 ⊢
        rw [List.any_eq_true] at h3
        obtain ⟨x, hx, hy⟩ := h3
        exact (List.any_eq_true.2 ⟨x, List.mem_of_mem_take hx, hy⟩).symm
      · have hF1 : Calls Tryz.prog 105 #[.string s, .pointer (some ⟨g, 0, none⟩)] w fun e w' => e = .returned (.bool false) ∧ w = w' := by have := hF.out s; rw [decide_eq_false hm] at this; exact this
        have HF1 := Lib.hid hF1
        clear hF1
        go_wp2_with (first | (go_at_call 105; refine HF1.out.mono ?_; rintro e w1 ⟨rfl, rfl⟩) | fail)
        go_round
        case rel => exact ⟨k + 1, by omega, by go_num, by rw [hst.out, decide_eq_false (by omega)]⟩
        case measure => simp [intOf]; omega
    · have hkn : k = n := by omega
      subst hkn
      go_wp2
      go_ret
      refine ⟨-1, rfl, ?_, rfl⟩
      have h2 := HN.out
      rw [List.take_of_length_le (by have := HL.out; omega)] at h2
      rw [h2]
      rfl
set_option maxRecDepth 100000 in
theorem longC_any (A : Option Addr) (n c : Nat) (l : List ByteArray) (g : Nat) (m : Int) (b : Bool) (w : World) (h : RdT w A n c l) (hc : w.cell? ⟨g, 4, none⟩ = some (.int .i64 m)) (hb : longS m l = b) :
    Calls Tryz.prog 104 #[.slice A n c, .func (.func 105) #[] #[.pointer (some ⟨g, 0, none⟩)]] w fun e w' => e = .returned (.bool b) ∧ w = w' := by
  have hI := longI_any A n c l g m w h hc
  rw [hb] at hI
  have HI := Lib.hid hI
  clear hI hc hb h
  go_enter Tryz.func104, Tryz.ntmps104
  go_wp2_with (first | (go_at_call 131; refine HI.out.mono ?_; rintro e w1 ⟨i, rfl, hi, rfl⟩) | fail)
  go_ret
  exact ⟨rfl, rfl⟩
theorem empty_str (s : ByteArray) : s.toList.isEmpty = decide (s.size = 0) := by
  rw [Lib.toList_data, Lib.size_eq]
  cases h : s.data.toList with
  | nil => rfl
  | cons x l => rfl
theorem empty_len {l : List ByteArray} {N : Nat} (h : l.length = N) : l.isEmpty = decide (N = 0) := by
  subst h
  cases l <;> simp
def fcs (k size lo hi most : Int) : Array Value := #[.int .i64 k, .int .i64 size, .int .i64 lo, .int .i64 hi, .int .i64 most]
theorem ld_fits (w : World) (k size lo hi most : Int) (o : Obj) (q : Nat) :
    (ldF (.pointer (some ⟨w.heap.size, 0, none⟩))).run Tryz.prog (((w.alloc (.cells #[.int .i64 k, .int .i64 size, .int .i64 lo, .int .i64 hi, .int .i64 most] 154)).alloc o).drewN q) =
      .ok (.agg #[.int .i64 k, .int .i64 size, .int .i64 lo, .int .i64 hi, .int .i64 most]) (((w.alloc (.cells #[.int .i64 k, .int .i64 size, .int .i64 lo, .int .i64 hi, .int .i64 most] 154)).alloc o).drewN q) :=
  ldF_at (f := ⟨k, size, lo, hi, most⟩) (fun j u hu => by rw [Nat.zero_add]; exact ((((Bk.made w 154 (Fld.cells ⟨k, size, lo, hi, most⟩).toArray).alloc o).drawn q).cell j).trans (by simpa using hu))
set_option maxRecDepth 100000 in
set_option maxHeartbeats 4000000 in
theorem fits_num_any (size lo hi most n : Int) (s : ByteArray) (l : List ByteArray) (A : Option Addr) (N c : Nat) (w : World) (hl : l.length = N) :
    Calls Tryz.prog 72 #[.agg #[.int .i64 1, .int .i64 size, .int .i64 lo, .int .i64 hi, .int .i64 most], .agg #[.int .i64 n, .string s, .slice A N c]] w fun e w' => e = .returned (.bool (fitsV ⟨1, size, lo, hi, most⟩ ⟨n, s, l⟩)) ∧ Below w.heap.size w w' := by
  have e0 : fitsV ⟨1, size, lo, hi, most⟩ ⟨n, s, l⟩ = (inF ⟨1, size, lo, hi, most⟩ n && decide (s.size = 0) && l.isEmpty) := rfl
  rw [e0, empty_len hl, ← empty_str]
  clear e0 hl l
  have hI := in_any ⟨1, size, lo, hi, most⟩ n
  have hld := ld_fits w 1 size lo hi most (.cells #[.int .i64 n, .string s, .slice A N c] 150)
  have hb0 := below_new w (.cells #[.int .i64 1, .int .i64 size, .int .i64 lo, .int .i64 hi, .int .i64 most] 154)
  have hb1 := hb0.trans (below_le hb0.size (below_new _ (.cells #[.int .i64 n, .string s, .slice A N c] 150)))
  have hB := Lib.hid (fun q => below_drawn hb1 q)
  clear hb0 hb1
  cases h1 : inF ⟨1, size, lo, hi, most⟩ n
  case' true =>
    cases h2 : s.toList.isEmpty
    case' true =>
      rcases Nat.eq_zero_or_pos N with rfl | hN
  all_goals
    rw [h1] at hI
    have HI := Lib.hid hI
    clear hI h1
    go_enter Tryz.func72, Tryz.ntmps72
    go_wp2
    go_quiet (fail)
    go_wp2_with (first | (go_at_call 103; (with_reducible refine (HI.out _).mono ?_); rintro e w1 ⟨rfl, hb1⟩) | fail)
    go_ret
    exact ⟨by first | rfl | (congr 2; simp; try omega), (hB.out _).trans (below_le (hB.out _).size hb1)⟩
theorem ne_zero {n : Int} (h : n ≠ 0) : (n != 0) = true := by rw [bne_iff_ne]; exact h
set_option maxRecDepth 100000 in
set_option maxHeartbeats 4000000 in
theorem fits_text_any (size lo hi most n : Int) (s : ByteArray) (l : List ByteArray) (A : Option Addr) (N c : Nat) (w : World) (hl : l.length = N) :
    Calls Tryz.prog 72 #[.agg #[.int .i64 2, .int .i64 size, .int .i64 lo, .int .i64 hi, .int .i64 most], .agg #[.int .i64 n, .string s, .slice A N c]] w fun e w' => e = .returned (.bool (fitsV ⟨2, size, lo, hi, most⟩ ⟨n, s, l⟩)) ∧ Below w.heap.size w w' := by
  have e0 : fitsV ⟨2, size, lo, hi, most⟩ ⟨n, s, l⟩ = (inF ⟨2, size, lo, hi, most⟩ s.size && decide (n = 0) && l.isEmpty) := rfl
  rw [e0, empty_len hl]
  clear e0 hl l
  have hI := in_any ⟨2, size, lo, hi, most⟩ s.size
  have hld := ld_fits w 2 size lo hi most (.cells #[.int .i64 n, .string s, .slice A N c] 150)
  have hb0 := below_new w (.cells #[.int .i64 2, .int .i64 size, .int .i64 lo, .int .i64 hi, .int .i64 most] 154)
  have hb1 := hb0.trans (below_le hb0.size (below_new _ (.cells #[.int .i64 n, .string s, .slice A N c] 150)))
  have hB := Lib.hid (fun q => below_drawn hb1 q)
  clear hb0 hb1
  cases h1 : inF ⟨2, size, lo, hi, most⟩ s.size
  case' true =>
    by_cases hn : n = 0
    case' pos =>
      subst hn
      rcases Nat.eq_zero_or_pos N with rfl | hN
    case' neg =>
      have hn' := ne_zero hn
  all_goals
    rw [h1] at hI
    have HI := Lib.hid hI
    clear hI h1
    go_enter Tryz.func72, Tryz.ntmps72
    go_wp2
    go_quiet (fail)
    go_wp2_with (first | (go_at_call 103; (with_reducible refine (HI.out _).mono ?_); rintro e w1 ⟨rfl, hb1⟩) | fail)
    go_ret
    exact ⟨by first | rfl | (congr 2; simp; try omega), (hB.out _).trans (below_le (hB.out _).size hb1)⟩
theorem longS_all (m : Int) (l : List ByteArray) : l.all (fun s => decide ((s.size : Int) ≤ m)) = !longS m l := by
  unfold longS
  induction l with
  | nil => rfl
  | cons x l ih =>
    rw [List.all_cons, List.any_cons, ih, Bool.not_or]
    congr 1
    by_cases h : m < (x.size : Int)
    · simp [h]
    · simp [h]; omega
set_option maxRecDepth 100000 in
set_option maxHeartbeats 4000000 in
theorem fits_texts_any (size lo hi most n : Int) (s : ByteArray) (l : List ByteArray) (A : Option Addr) (N c : Nat) (w : World) (hr : RdT w A N c l) :
    Calls Tryz.prog 72 #[.agg #[.int .i64 3, .int .i64 size, .int .i64 lo, .int .i64 hi, .int .i64 most], .agg #[.int .i64 n, .string s, .slice A N c]] w fun e w' => e = .returned (.bool (fitsV ⟨3, size, lo, hi, most⟩ ⟨n, s, l⟩)) ∧ Below w.heap.size w w' := by
  have hl := hr.len
  have e0 : fitsV ⟨3, size, lo, hi, most⟩ ⟨n, s, l⟩ = (inF ⟨3, size, lo, hi, most⟩ l.length && l.all (fun s => decide ((s.size : Int) ≤ most)) && decide (n = 0) && decide (s.size = 0)) := rfl
  rw [e0, longS_all, ← empty_str, hl]
  clear e0
  have hI := in_any ⟨3, size, lo, hi, most⟩ N
  have hld := ld_fits w 3 size lo hi most (.cells #[.int .i64 n, .string s, .slice A N c] 150)
  have hb0 := below_new w (.cells #[.int .i64 3, .int .i64 size, .int .i64 lo, .int .i64 hi, .int .i64 most] 154)
  have hb1 := hb0.trans (below_le hb0.size (below_new _ (.cells #[.int .i64 n, .string s, .slice A N c] 150)))
  have hB := Lib.hid (fun q => below_drawn hb1 q)
  have hc4 : Hid (∀ q, (((w.alloc (.cells #[.int .i64 3, .int .i64 size, .int .i64 lo, .int .i64 hi, .int .i64 most] 154)).alloc (.cells #[.int .i64 n, .string s, .slice A N c] 150)).drewN q).cell? ⟨w.heap.size, 4, none⟩ = some (.int .i64 most)) := fun q =>
    ((((Bk.made w 154 (Fld.cells ⟨3, size, lo, hi, most⟩).toArray).alloc _).drawn q).cell 4).trans rfl
  have hC := Lib.hid (fun b (hb : longS most l = b) q => longC_any A N c l w.heap.size most b _ (hr.ext (hB.out q)) (hc4.out q) hb)
  clear hb0 hb1 hc4 hr
  cases h1 : inF ⟨3, size, lo, hi, most⟩ N
  case' true =>
    cases h3 : longS most l
    case' false =>
      by_cases hn : n = 0
      case' pos =>
        subst hn
        cases h2 : s.toList.isEmpty
      case' neg =>
        have hn' := ne_zero hn
  case' false =>
    have h3 : longS most l = longS most l := rfl
  all_goals
    rw [h1] at hI
    have HI := Lib.hid hI
    have HC := Lib.hid (hC.out _ h3)
    clear hI h1 hC h3
    go_enter Tryz.func72, Tryz.ntmps72
    go_wp2
    go_quiet (fail)
    go_wp2_with (first | (go_at_call 104; (with_reducible refine (HC.out _).mono ?_); rintro e w2 ⟨rfl, rfl⟩) | (go_at_call 103; (with_reducible refine (HI.out _).mono ?_); rintro e w1 ⟨rfl, hb1⟩) | fail)
    go_ret
    exact ⟨by first | rfl | (congr 2; simp; try omega), (hB.out _).trans (below_le (hB.out _).size hb1)⟩
theorem fits_any (f : Fld) (hf : GoodF f) (m : MVal) (w : World) (hm : m.ok w) :
    Calls Tryz.prog 72 #[.agg #[.int .i64 f.kind, .int .i64 f.size, .int .i64 f.lo, .int .i64 f.hi, .int .i64 f.most], .agg #[.int .i64 m.v.n, .string m.v.s, .slice m.A m.n m.c]] w fun e w' => e = .returned (.bool (fitsV f m.v)) ∧ Below w.heap.size w w' := by
  obtain ⟨k, size, lo, hi, most⟩ := f
  obtain ⟨⟨n, s, l⟩, A, N, c⟩ := m
  rcases hf.kind with ⟨k1, _⟩ | ⟨k1, _⟩ | ⟨k1, _⟩
  · obtain rfl : k = 1 := k1
    exact fits_num_any size lo hi most n s l A N c w (RdT.len hm)
  · obtain rfl : k = 2 := k1
    exact fits_text_any size lo hi most n s l A N c w (RdT.len hm)
  · obtain rfl : k = 3 := k1
    exact fits_texts_any size lo hi most n s l A N c w hm
end Go.Proofs.YtjodiieeocaipaaGreatDoor
