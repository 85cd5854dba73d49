/-
  entry: made, whole; same, restOf; slices.Equal of texts.
-/
import Derived.Test.YtpfdbbcfcimmfaaGreatDoorEMade3
namespace Go.Proofs.YtpfdbbcfcimmfaaGreatDoor
open Go.RowKit

theorem RdV.cellAt {w : World} {A : Option Addr} {n c : Nat} {ms : List MVal} (h : RdV w A n c ms) (hn : 0 < n) : ∃ gv, A = some ⟨gv, 0, none⟩ ∧ gv < w.heap.size ∧ ∀ i m j u, ms[i]? = some m → m.cells[j]? = some u → w.cell? ⟨gv, i * 3 + j, none⟩ = some u := by
  have hlen := h.rows.len
  rw [List.length_map] at hlen
  obtain ⟨m, hm⟩ : ∃ m, ms[0]? = some m := ⟨ms[0]'(by omega), List.getElem?_eq_getElem _⟩
  obtain ⟨gv, rfl, hg, _⟩ := h.rows.cell 0 m.cells (by rw [List.getElem?_map, hm]; rfl)
  refine ⟨gv, rfl, hg, fun i m j u hm hu => ?_⟩
  obtain ⟨g', e, _, hc⟩ := h.rows.cell i m.cells (by rw [List.getElem?_map, hm]; rfl)
  injection e with e
  injection e with e
  subst e
  exact hc j u hu
theorem made_any (k : Int) (hk : 1 ≤ k ∧ k ≤ 5) (A : Option Addr) (n c : Nat) (ms : List MVal) (w : World) (h : RdV w A n c ms) (hok : okAll (fldsE k) (vsOf ms) = true) :
    Calls Tryz.prog 39 #[.int .i64 k, .slice A n c] w fun e w' => ∃ x A' n' c' v, e = .returned (.tuple #[.agg #[.int .i64 x.kind, .string x.topic, .string x.group, .int .i64 x.part, .int .i64 x.parts, .int .i64 x.first, .int .i64 x.off, .int .i64 x.bat.time, .int .i64 x.bat.prod, .int .i64 x.bat.seq, .slice A' n' c'], v]) ∧ MadeR k (vsOf ms) w.heap.size w' x A' n' c' v ∧ Below w.heap.size w w' := by
  have hlen := h.rows.len
  rw [List.length_map] at hlen
  have hl2 : ms.length = (fldsE k).length := by
    have h1 := hok
    unfold okAll at h1
    rw [Bool.and_eq_true, decide_eq_true_iff] at h1
    have := h1.1
    unfold vsOf at this
    rw [List.length_map] at this
    exact this
  have hcap := h.rows.cap
  have hbig := h.rows.big
  rcases kind_cases hk with rfl | rfl | rfl | rfl | rfl
  · have hl3 : ms.length = 3 := hl2
    obtain rfl : n = 3 := by omega
    obtain ⟨gv, rfl, hg, hc⟩ := h.cellAt (by omega)
    match ms, hl3 with
    | [m0, m1, m2], _ =>
      refine (made_1 gv c m0 m1 m2 w hcap hbig hg (hc 0 m0 1 _ rfl rfl) (hc 1 m1 0 _ rfl rfl) (hc 2 m2 0 _ rfl rfl)).mono ?_
      rintro e w' ⟨rfl, hb⟩
      exact ⟨⟨1, m0.v.s, nul, 0, m1.v.n, m2.v.n, 0, noB⟩, none, 0, 0, .nilIface, rfl, ⟨rfl, RdT.nil _, (fun ad h => by cases h), .inl ⟨rfl, rfl⟩⟩, hb⟩
  · have hl3 : ms.length = 1 := hl2
    obtain rfl : n = 1 := by omega
    obtain ⟨gv, rfl, hg, hc⟩ := h.cellAt (by omega)
    match ms, hl3 with
    | [m0], _ =>
      refine (made_2 gv c m0 w hcap hbig hg (hc 0 m0 1 _ rfl rfl)).mono ?_
      rintro e w' ⟨rfl, hb⟩
      exact ⟨⟨2, m0.v.s, nul, 0, 0, 0, 0, noB⟩, none, 0, 0, .nilIface, rfl, ⟨rfl, RdT.nil _, (fun ad h => by cases h), .inl ⟨rfl, rfl⟩⟩, hb⟩
  · have hl3 : ms.length = 3 := hl2
    obtain rfl : n = 3 := by omega
    obtain ⟨gv, rfl, hg, hc⟩ := h.cellAt (by omega)
    match ms, hl3 with
    | [m0, m1, m2], _ =>
      have hs2 : m2.v.s.size ≤ maxLen := by
        obtain ⟨x0, r0, e0, f0, h1⟩ := okAll_cons (f := nameF) (fs := [partF, sF 1 600]) hok
        injection e0 with _ e0
        subst e0
        obtain ⟨x1, r1, e1, f1, h1⟩ := okAll_cons h1
        injection e1 with _ e1
        subst e1
        obtain ⟨x2, r2, e2, f2, h1⟩ := okAll_cons h1
        injection e2 with e2 _
        obtain ⟨s, e3, _, a3⟩ := fits_text rfl f2
        have : m2.v.s = s := by rw [e2, e3]; rfl
        have a3 : (s.size : Int) ≤ 600 := a3
        rw [this]
        unfold maxLen
        omega
      refine (made_3 gv c m0 m1 m2 w hg hs2 (hc 0 m0 1 _ rfl rfl) (hc 1 m1 0 _ rfl rfl) (hc 2 m2 1 _ rfl rfl)).mono ?_
      rintro e w' ⟨b, A', n', c', v, rfl, ⟨r1, r2, r3⟩, hb⟩
      refine ⟨⟨3, m0.v.s, nul, m1.v.n, 0, 0, 0, b⟩, A', n', c', v, rfl, ⟨?_, r1, r2, ?_⟩, hb⟩
      · show _ = (⟨3, m0.v.s, nul, m1.v.n, 0, 0, 0, batOf (getB m2.v.s.data.toList)⟩ : Ent)
        rcases r3 with ⟨_, h3⟩ | ⟨rfl, d, e, _, h3⟩
        · rw [h3]; rfl
        · rw [h3]; rfl
      · show _ ∨ _
        rcases r3 with ⟨h2, h3⟩ | ⟨_, d, e, h2, h3⟩
        · refine .inl ⟨h2, ?_⟩
          show (match getB m2.v.s.data.toList with | .ok _ => none | .error c => some c) = none
          rw [h3]
        · refine .inr ⟨d, e, h2, ?_⟩
          show (match getB m2.v.s.data.toList with | .ok _ => none | .error c => some c) = some e
          rw [h3]
  · have hl3 : ms.length = 4 := hl2
    obtain rfl : n = 4 := by omega
    obtain ⟨gv, rfl, hg, hc⟩ := h.cellAt (by omega)
    match ms, hl3 with
    | [m0, m1, m2, m3], _ =>
      refine (made_4 gv c m0 m1 m2 m3 w hcap hbig hg (hc 0 m0 1 _ rfl rfl) (hc 1 m1 1 _ rfl rfl) (hc 2 m2 0 _ rfl rfl) (hc 3 m3 0 _ rfl rfl)).mono ?_
      rintro e w' ⟨rfl, hb⟩
      exact ⟨⟨4, m1.v.s, m0.v.s, m2.v.n, 0, 0, m3.v.n, noB⟩, none, 0, 0, .nilIface, rfl, ⟨rfl, RdT.nil _, (fun ad h => by cases h), .inl ⟨rfl, rfl⟩⟩, hb⟩
  · have hl3 : ms.length = 3 := hl2
    obtain rfl : n = 3 := by omega
    obtain ⟨gv, rfl, hg, hc⟩ := h.cellAt (by omega)
    match ms, hl3 with
    | [m0, m1, m2], _ =>
      refine (made_5 gv c m0 m1 m2 w hcap hbig hg (hc 0 m0 1 _ rfl rfl) (hc 1 m1 0 _ rfl rfl) (hc 2 m2 0 _ rfl rfl)).mono ?_
      rintro e w' ⟨rfl, hb⟩
      exact ⟨⟨5, m0.v.s, nul, m1.v.n, 0, 0, m2.v.n, noB⟩, none, 0, 0, .nilIface, rfl, ⟨rfl, RdT.nil _, (fun ad h => by cases h), .inl ⟨rfl, rfl⟩⟩, hb⟩

theorem str_eq (t u : ByteArray) : (t.toList == u.toList) = decide (t = u) := by
  rw [Lib.toList_data, Lib.toList_data]
  by_cases h : t = u
  · subst h; simp
  · have : t.data.toList ≠ u.data.toList := fun e => h (by rw [← Lib.mk_data t, ← Lib.mk_data u, e])
    simp [h]
    exact fun e => this (by rw [e])
theorem str_ne (t u : ByteArray) : (t.toList != u.toList) = !decide (t = u) := by
  show (!(t.toList == u.toList)) = _
  rw [str_eq]
set_option maxRecDepth 100000 in
set_option maxHeartbeats 1000000 in
theorem equalT_any (A : Option Addr) (n c : Nat) (l : List ByteArray) (A' : Option Addr) (n' c' : Nat) (l' : List ByteArray) (w : World) (h : RdT w A n c l) (h' : RdT w A' n' c' l') (r : Bool) (hr : decide (l = l') = r) :
    Calls Tryz.prog 73 #[.slice A n c, .slice A' n' c'] w fun e w' => e = .returned (.bool r) ∧ Below w.heap.size w w' := by
  subst hr
  have hl := h.len
  have hl' := h'.len
  by_cases hn : n = n'
  · subst hn
    have hcap := Rd.cap h
    have hbig := Rd.big h
    have hcap' := Rd.cap h'
    have hbig' := Rd.big h'
    have H := Lib.hid h
    have H' := Lib.hid h'
    have HL := Lib.hid hl
    have HL' := Lib.hid hl'
    have hb0 := Lib.hid (Below.refl w.heap.size w)
    clear h h' hl hl'
    go_enter Tryz.func73, Tryz.ntmps73
    go_wp2
    go_loopw [13] (fun i wr => ∃ k q : Nat, k ≤ n ∧ i = .int .i64 k ∧ l.take k = l'.take k ∧ wr = w.drewN q) (fun i _ => n - (intOf i).toNat)
    case atStart => exact ⟨0, 0, Nat.zero_le _, rfl, rfl, rfl⟩
    case round =>
      obtain ⟨k, q, hk, rfl, hpre, rfl⟩ := hrel
      by_cases hlt : k < n
      · have hi : (k : Int) < n := by omega
        obtain ⟨s, hs⟩ : ∃ s, l[k]? = some s := ⟨l[k]'(by have := HL.out; omega), List.getElem?_eq_getElem _⟩
        obtain ⟨s', hs'⟩ : ∃ s', l'[k]? = some s' := ⟨l'[k]'(by have := HL'.out; omega), List.getElem?_eq_getElem _⟩
        obtain ⟨ad, rfl, _, hc⟩ := Rd.cell H.out k (.string s) (by rw [List.getElem?_map, hs]; rfl)
        obtain ⟨ad', rfl, _, hc'⟩ := Rd.cell H'.out k (.string s') (by rw [List.getElem?_map, hs']; rfl)
        have HS := Lib.hid hs
        have HS' := Lib.hid hs'
        have HP := Lib.hid hpre
        clear hs hs' hpre
        by_cases he : s = s'
        · subst he
          have hne : (s.toList != s.toList) = false := by rw [str_ne]; simp
          go_wp2
          go_quiet (fail)
          rename Nat => q2
          go_wp2
          go_roundw
          case rel => exact ⟨k + 1, q + q2, by omega, by go_num, by rw [List.take_add_one, List.take_add_one, HS.out, HS'.out, HP.out], rfl⟩
          case measure => simp [intOf]; omega
        · have hne : (s.toList == s'.toList) = false := by rw [str_eq]; simp [he]
          have hd : decide (l = l') = false := decide_eq_false (fun e => he (by have h1 := HS.out; rw [e, HS'.out] at h1; exact (Option.some.inj h1).symm))
          have HD := Lib.hid hd
          clear hd
          go_wp2
          go_quiet (fail)
          go_wp2
          go_ret
          exact ⟨ret_bool HD.out.symm, below_drawn (below_drawn hb0.out _) _⟩
      · obtain rfl : k = n := by omega
        have hd : decide (l = l') = true := decide_eq_true (by
          have := hpre
          rw [List.take_of_length_le (by have := HL.out; omega), List.take_of_length_le (by have := HL'.out; omega)] at this
          exact this)
        have HD := Lib.hid hd
        clear hd
        go_wp2
        go_ret
        exact ⟨ret_bool HD.out.symm, below_drawn hb0.out _⟩
  · have hd : decide (l = l') = false := decide_eq_false (fun e => hn (by rw [← hl, ← hl', e]))
    rw [hd]
    have hne : ((n : Int) != (n' : Int)) = true := by rw [bne_iff_ne]; omega
    clear hd h h'
    have hb0 := Lib.hid (Below.refl w.heap.size w)
    go_enter Tryz.func73, Tryz.ntmps73
    go_wp2
    go_ret
    exact ⟨rfl, hb0.out⟩
end Go.Proofs.YtpfdbbcfcimmfaaGreatDoor
