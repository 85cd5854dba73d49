/-
  The walk of the law GroupNames.
-/
import Derived.Test.YtgigibkadbnplaaDoorGrpStand
import Derived.Laws.IdiomStrings
namespace Go.Proofs.YtgigibkadbnplaaDoor
open Go.RowKit Go.ChangeShapes Go.WideShapes
open Go.ChangeMaps (open_string)
attribute [local go_sem] w8_nn w8_256 wrap_i64_w8 wrap64_w8

set_option maxRecDepth 100000 in
theorem Came.str {H : Type} {enc : TypeId × Value → H} {W : World} {base : Nat} {v : Value} {d : DataW H} {p : List MemPlace} (h : Came enc W base 9 v d p) : ∃ s, v = .string s ∧ s.size ≤ maxLen := by
  obtain ⟨s, rfl, _, _, hs⟩ := open_string Tryd.underlying9 h.1 h.2
  exact ⟨s, rfl, hs⟩

theorem RdB.put {w : World} {g n c : Nat} {l : List UInt8} (h : RdB w (some ⟨g, 0, none⟩) n c l) {k : Nat} (x : UInt8) : RdB (w.setCell ⟨g, k, none⟩ (.int .u8 (w8 x))) (some ⟨g, 0, none⟩) n c (l.set k x) := by
  have hl : l.length = n := RdB.len h
  refine ⟨by rw [bvs_len, List.length_set]; exact hl, h.cap, h.big, fun j u hu => ?_⟩
  have hj : j < n := by
    have := (List.getElem?_eq_some_iff.1 hu).1
    rw [bvs_len, List.length_set, hl] at this
    exact this
  obtain ⟨ad, y, e, _, hy, hc⟩ := h.get hj
  obtain rfl := Option.some.inj e
  have hb : g < w.heap.size := by have := cell_lt hc; rwa [add_block] at this
  refine ⟨_, rfl, by simpa [World.setCell] using hb, ?_⟩
  rw [Addr.add_none, Nat.zero_add] at hc ⊢
  rw [bvs_get _ j (by rw [List.length_set]; omega)] at hu
  obtain rfl := Option.some.inj hu
  by_cases hjk : k = j
  · subst hjk
    rw [World.cell?_setCell_same w _ _ hc]
    simp [bv]
  · rw [World.cell?_setCell_other w _ _ _ (fun e => hjk (Addr.mk.inj e).2.1), hc]
    have := hy.out
    rw [List.getElem?_eq_getElem (by omega)] at this
    simp [List.getElem_set_ne hjk, bv, Option.some.inj this]
theorem RdB.back {w : World} {g : Nat} {l : List UInt8} (h : RdB w (some ⟨g, 0, none⟩) 18 18 l) : (convert 34 9 (.slice (some ⟨g, 0, none⟩) 18 18)).run Tryd.prog w = .ok (.string ⟨l.toArray⟩) w := by
  have hl : l.length = 18 := RdB.len h
  have := run_convert_bytes_back (P := Tryd.prog) w 34 9 5 ⟨g, 0, none⟩ 18 l Tryd.underlying34 Tryd.underlying5 Tryd.underlying9 (fun j hj => by
    obtain ⟨ad, y, e, _, hy, hc⟩ := h.get (k := j) (by omega)
    obtain rfl := Option.some.inj e
    have e2 := hy.out
    rw [List.getElem?_eq_getElem hj] at e2
    rw [hc, ← Option.some.inj e2]; rfl)
  rw [hl] at this
  exact this
theorem calls_cut {P : Program} {f : FuncId} {args : Array Value} {Q : Ending → World → Prop} {W : World} (F : World → Prop) (hF : F W) (h : ∀ w', F w' → Calls P f args w' Q) : Calls P f args W Q := h W hF
def GOOD : List UInt8 := [97, 45, 108, 111, 110, 103, 46, 110, 97, 109, 101, 45, 119, 105, 116, 104, 46, 57]
theorem good_all (k : Nat) (x : UInt8) (hk : k < 18) : (GOOD.set k x).all isLet = isLet x := by
  have hg : ∀ y ∈ GOOD, isLet y = true := by decide
  cases hx : isLet x
  · rw [List.all_eq_false]
    exact ⟨x, List.mem_iff_getElem?.2 ⟨k, by rw [List.getElem?_set_self (by exact hk)]⟩, by rw [hx]; decide⟩
  · rw [List.all_eq_true]
    intro y hy
    rcases List.mem_or_eq_of_mem_set hy with h | h
    · exact hg y h
    · rw [h, hx]
theorem nameOk_good (k : Nat) (x : UInt8) (hk : k < 18) : nameOk ⟨(GOOD.set k x).toArray⟩ = isLet x := by
  have hs : (⟨(GOOD.set k x).toArray⟩ : ByteArray).size = 18 := by rw [Lib.size_mk, List.length_set]; rfl
  unfold nameOk
  rw [hs]
  show (true && true && (GOOD.set k x).all isLet) = _
  rw [good_all k x hk]; rfl
/-- what the law's own loop has said of the text's first k bytes -/
def okTo (s : ByteArray) (n k : Nat) : Bool := decide (0 < n) && decide (n ≤ 24) && (s.data.toList.take k).all isLet
theorem okTo_next {s : ByteArray} {n k : Nat} (hk' : k < s.size) (h : okTo s n k = true) : okTo s n (k + 1) = isLet (s[k]'hk') := by
  unfold okTo at h ⊢
  simp only [Bool.and_eq_true] at h
  rw [h.1.1, h.1.2, List.take_add_one, List.all_append, h.2]
  have hg : s.data.toList[k]? = some (s[k]'hk') := Lib.data_getElem? s k hk'
  rw [hg]; simp
theorem okTo_no {s : ByteArray} {n k : Nat} (h : okTo s n k = false) : okTo s n (k + 1) = false := by
  unfold okTo at h ⊢
  rw [List.take_add_one, List.all_append, ← Bool.and_assoc, h]
  rfl
theorem okTo_end {s : ByteArray} {n : Nat} (hs : s.size = n) : okTo s n n = nameOk s := by
  unfold okTo nameOk
  rw [hs, List.take_of_length_le (by rw [← Lib.size_eq, hs]; exact Nat.le_refl _)]
set_option maxRecDepth 100000 in
set_option maxHeartbeats 2000000 in
theorem groupNames_any {H : Type} {enc : TypeId × Value → H} {base : Nat} {v0 v1 v2 : Value} {d0 d1 d2 : DataW H} {p0 p1 p2 : List MemPlace} (w : World) (h0 : Came enc w base 9 v0 d0 p0) (h1 : Came enc w base 3 v1 d1 p1) (h2 : Came enc w base 5 v2 d2 p2) :
    Calls Tryd.prog 4 #[v0, v1, v2] w fun e w' => e = .returned (.bool true) ∧ Below w.heap.size w w' := by
  obtain ⟨s0, rfl, hs0⟩ := h0.str
  obtain ⟨z, rfl, hz1, hz2⟩ := h1.int
  obtain ⟨x, rfl⟩ := h2.u8
  clear h0 h1 h2
  have hs1 : s0.size ≤ 9223372036854775807 := hs0
  obtain ⟨n, hn⟩ : ∃ n, n = min s0.size 40 := ⟨_, rfl⟩
  have hmin : min (s0.size : Int) 40 = (n : Int) := by omega
  have hn40 : n ≤ 40 := by omega
  have hns : n ≤ s0.size := by omega
  have hnt : (n : Int).toNat = n := Int.toNat_natCast n
  obtain ⟨s, hs⟩ : ∃ s, s = s0.extract 0 n := ⟨_, rfl⟩
  have hsz : s.size = n := by rw [hs, ByteArray.size_extract]; omega
  have hx : s0.extract 0 n = s := hs.symm
  have hb0 := Below.refl w.heap.size w
  clear hn hs hs0
  have hcase : (0 < n ∧ (n : Int) ≤ 24 ∧ okTo s n 0 = true) ∨ (0 < n ∧ ¬ ((n : Int) ≤ 24) ∧ okTo s n 0 = false) ∨ (¬ (0 < n) ∧ okTo s n 0 = false) := by
    by_cases hp : 0 < n
    · by_cases h24 : n ≤ 24
      · exact .inl ⟨hp, by omega, by simp [okTo, hp, h24]⟩
      · exact .inr (.inl ⟨hp, by omega, by simp [okTo, hp, h24]⟩)
    · exact .inr (.inr ⟨hp, by simp [okTo, hp]⟩)
  rcases hcase with ⟨hp, h24, hB⟩ | ⟨hp, h24, hB⟩ | ⟨hp, hB⟩
  all_goals
    have HB := Lib.hid hB
    clear hB
    go_enter Tryd.func4, Tryd.ntmps4
    go_wp2_with fail
    clear hmin hx hns hnt
    have Hb0 := Lib.hid hb0
    clear hb0
    go_loopw [7, 8] (fun ok i wr => ∃ k : Nat, k ≤ n ∧ i = .int .i64 k ∧ ok = .bool (okTo s n k) ∧ Below w.heap.size w wr) (fun _ i _ => n - (intOf i).toNat)
    case atStart => exact ⟨0, Nat.zero_le _, rfl, by rw [HB.out], Hb0.out⟩
    case round =>
      obtain ⟨k, hk, rfl, rfl, hbw⟩ := hrel
      have Hbw := Lib.hid hbw
      clear hbw
      by_cases hlt : k < n
      · have hi : (k : Int) < n := by omega
        have hks : k < s.size := by omega
        cases hok : okTo s n k
        · have hno := Lib.hid (okTo_no hok)
          clear hok
          go_wp2
          go_roundw
          case rel => exact ⟨k + 1, by omega, by go_num, by rw [hno.out], Hbw.out⟩
          case measure => simp [intOf]; omega
        · have hyes := Lib.hid (okTo_next hks hok)
          clear hok
          obtain ⟨y, hy⟩ : ∃ y, s[k]'hks = y := ⟨_, rfl⟩
          rw [hy] at hyes
          have hS := Lib.hid (stand_any y wr)
          go_wp2_with (first | (go_at_call 14; refine hS.out.mono ?_; rintro e w1 ⟨rfl, hb1⟩) | fail)
          have hbw1 := Hbw.out.trans (below_le Hbw.out.size hb1)
          go_roundw
          case rel => exact ⟨k + 1, by omega, by go_num, by rw [hyes.out], hbw1⟩
          case measure => simp [intOf]; omega
      · obtain rfl : k = n := by omega
        rw [okTo_end hsz]
        have kc := kc_bytes wr
        have hrd := Lib.hid (fun (C : Array Value) (hC : C = (bvs GOOD).toArray) => RdB.const wr GOOD C hC 5 (18, 19) 18 rfl (by omega))
        have HN := Lib.hid (fun w : World => name_any s (by omega) w)
        clear HB hn40 hk hlt
        go_wp2_with fail
        refine calls_cut (fun w5 => RdB w5 (some ⟨wr.heap.size, 0, none⟩) 18 18 GOOD ∧ (∀ j, j < 18 → w5.frozen? ⟨wr.heap.size, j, none⟩ = false) ∧ Below wr.heap.size wr w5) ⟨hrd.out _ rfl, fun j hj => by rw [World.frozen?_alloc_mark]; simp; omega, below_new wr _⟩ ?_
        rintro w5 ⟨hR5, hF5, hB5⟩
        clear kc hrd
        refine (within_nat z 17 w5 (by omega) (by omega) hz1 hz2).mono ?_
        rintro e w6 ⟨k2, rfl, hk2, rfl⟩
        have hk18 : k2 < 18 := by omega
        have hfz := hF5 k2 hk18
        obtain ⟨ad, y, e, _, _, hcy⟩ := hR5.get hk18
        obtain rfl := Option.some.inj e
        rw [Addr.add_none, Nat.zero_add] at hcy
        have HR := Lib.hid (hR5.put (k := k2) x)
        have hBw := Hbw.out.trans (below_le Hbw.out.size hB5)
        have HB6 := Lib.hid (hBw.setCell (p := ⟨wr.heap.size, k2, none⟩) Hbw.out.size (.int .u8 (w8 x)))
        have hgood := Lib.hid (nameOk_good k2 x hk18)
        have hki : (k2 : Int) < 18 := by omega
        clear hR5 hF5 hB5 hBw e hk18
        go_wp2_with fail
        refine (HN.out _).mono ?_
        rintro e w7 ⟨rfl, hb7⟩
        have hR7 := HR.out.ext hb7
        have hcv := hR7.back
        have hB7 := HB6.out.trans (below_le HB6.out.size hb7)
        have hN2 := name_any ⟨(GOOD.set k2 x).toArray⟩ (by rw [Lib.size_mk, List.length_set]; decide) w7
        rw [hgood.out] at hN2
        have HN2 := Lib.hid hN2
        clear hN2 hR7 hb7 HR HB6 HN hcy hfz
        go_wp2_with fail
        refine HN2.out.mono ?_
        rintro e w8 ⟨rfl, hb8⟩
        have hB8 := hB7.trans (below_le hB7.size hb8)
        clear hcv HN2 hb8 hB7
        go_wp2_with fail
        refine (stand_any x w8).mono ?_
        rintro e w9 ⟨rfl, hb9⟩
        have hB9 := hB8.trans (below_le hB8.size hb9)
        clear hb9 hB8
        go_wp2_with fail
        refine (groupRuns_any w9).mono ?_
        rintro e w10 ⟨rfl, hb10⟩
        go_wp2_with fail
        go_ret
        exact ⟨rfl, hB9.trans (below_le hB9.size hb10)⟩
end Go.Proofs.YtgigibkadbnplaaDoor
