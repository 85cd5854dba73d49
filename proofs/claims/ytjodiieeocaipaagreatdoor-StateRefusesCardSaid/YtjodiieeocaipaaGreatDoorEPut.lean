/-
  gram: Put.
-/
import Derived.Test.YtjodiieeocaipaaGreatDoorELow
import Derived.Test.YtjodiieeocaipaaGreatDoorEWrap
namespace Go.Proofs.YtjodiieeocaipaaGreatDoor
open Go.RowKit
attribute [local go_sem ↓] ldF_eq ldV_eq

def stF (v u : Value) : Sem Unit := Instr.storeAt 154 v u
theorem stF_eq (v u : Value) : Instr.storeAt 154 v u = stF v u := rfl
theorem one_f (f : Fld) : ∀ u ∈ f.cells, u.oneCell' = true := fun u hu => by
  unfold Fld.cells at hu
  simp only [List.mem_cons, List.mem_nil_iff, or_false] at hu
  rcases hu with rfl | rfl | rfl | rfl | rfl <;> rfl
theorem stF_new (w : World) (f : Fld) : (stF (.pointer (some ⟨w.heap.size, 0, none⟩)) (.agg #[.int .i64 f.kind, .int .i64 f.size, .int .i64 f.lo, .int .i64 f.hi, .int .i64 f.most])).run Tryz.prog (w.alloc (.cells #[.int .i64 0, .int .i64 0, .int .i64 0, .int .i64 0, .int .i64 0] 154)) = .ok () (w.alloc (.cells #[.int .i64 f.kind, .int .i64 f.size, .int .i64 f.lo, .int .i64 f.hi, .int .i64 f.most] 154)) := by
  exact run_storeAt_new w 154 _ _ size_f rfl (all_oneCell_toArray (cs := f.cells) (one_f f))
attribute [local go_sem ↓] stF_eq
theorem writV_le {f : Fld} (hf : GoodF f) {v : Val} (h : fitsV f v = true) : (writV f v).length ≤ 20000000 := by
  obtain ⟨n, s, l⟩ := v
  unfold writV
  rcases hf.kind with ⟨k1, a1, a2, a3, a4⟩ | ⟨k1, a1, a2⟩ | ⟨k1, a1, a2, a3⟩
  · rw [if_pos k1, leB_len]; omega
  · obtain ⟨s', e, h1, h2⟩ := fits_text k1 h
    obtain rfl : s = s' := congrArg Val.s e
    rw [if_neg (by omega), if_pos k1]
    show (txtB s).length ≤ _
    rw [txtB_len]; omega
  · obtain ⟨l', e, h1, h2, h3⟩ := fits_texts k1 h
    obtain rfl : l = l' := congrArg Val.l e
    rw [if_neg (by omega), if_neg (by omega), List.length_append, leB_len]
    have h4 := txts_le l (fun s hs => Int.le_trans (h3 s hs) a3)
    have h5 : l.length ≤ 255 := by omega
    have h6 : 65537 * l.length ≤ 65537 * 255 := Nat.mul_le_mul_left _ h5
    show 1 + (l.flatMap txtB).length ≤ _
    omega
/-- the bytes of the first k -/
def upB (fs : List Fld) (vs : List Val) (k : Nat) : List UInt8 := ((List.zip fs vs).take k).flatMap (fun p => writV p.1 p.2)
def upOk (fs : List Fld) (vs : List Val) (k : Nat) : Bool := ((List.zip fs vs).take k).all (fun p => fitsV p.1 p.2)
theorem up_next {fs : List Fld} {vs : List Val} {k : Nat} {f : Fld} {v : Val} (h1 : fs[k]? = some f) (h2 : vs[k]? = some v) : upB fs vs (k + 1) = upB fs vs k ++ writV f v ∧ upOk fs vs (k + 1) = (upOk fs vs k && fitsV f v) := by
  have hz : (List.zip fs vs)[k]? = some (f, v) := by rw [List.getElem?_zip_eq_some]; exact ⟨h1, h2⟩
  unfold upB upOk
  rw [List.take_add_one, hz, List.flatMap_append, List.all_append]
  exact ⟨by simp, by simp⟩
theorem upB_le {fs : List Fld} {vs : List Val} (hg : ∀ f ∈ fs, GoodF f) : ∀ k, upOk fs vs k = true → (upB fs vs k).length ≤ 20000000 * k
  | 0, _ => by simp [upB]
  | k + 1, h => by
    by_cases hk : k < (List.zip fs vs).length
    · have hk1 : k < fs.length := by rw [List.length_zip] at hk; omega
      have hk2 : k < vs.length := by rw [List.length_zip] at hk; omega
      obtain ⟨e1, e2⟩ := up_next (List.getElem?_eq_getElem hk1) (List.getElem?_eq_getElem hk2)
      rw [e2, Bool.and_eq_true] at h
      have := upB_le hg k h.1
      have := writV_le (hg _ (List.getElem_mem hk1)) h.2
      rw [e1, List.length_append]
      omega
    · have e : upB fs vs (k + 1) = upB fs vs k := by unfold upB; rw [List.take_of_length_le (by omega), List.take_of_length_le (by omega)]
      have e2 : upOk fs vs (k + 1) = upOk fs vs k := by unfold upOk; rw [List.take_of_length_le (by omega), List.take_of_length_le (by omega)]
      rw [e2] at h
      have := upB_le hg k h
      rw [e]; omega
theorem upOk_not {fs : List Fld} {vs : List Val} {k : Nat} (h : upOk fs vs k = false) : okAll fs vs = false := by
  unfold upOk at h
  unfold okAll
  rw [List.all_eq_false] at h
  obtain ⟨p, hp, hq⟩ := h
  rw [Bool.and_eq_false_iff]
  exact .inr (List.all_eq_false.2 ⟨p, List.mem_of_mem_take hp, hq⟩)
def opPut : ByteArray := ⟨#[103, 114, 97, 109, 46, 80, 117, 116]⟩
/-- what Put hands back -/
def PutE (fs : List Fld) (vs : List Val) (w w' : World) (e : Ending) : Prop :=
  (okAll fs vs = true ∧ ∃ A' M c', e = .returned (.tuple #[.slice A' M c', .nilIface]) ∧ OwnB w' w.heap.size (.slice A' M c') (bytesAll fs vs)) ∨ (okAll fs vs = false ∧ ∃ v k, e = .returned (.tuple #[.slice none 0 0, v]) ∧ IsErr 1 v k)
set_option maxRecDepth 100000 in
set_option maxHeartbeats 4000000 in
theorem fput_any (A : Option Addr) (n c : Nat) (fs : List Fld) (Av : Option Addr) (nv cv : Nat) (ms : List MVal) (w : World) (hf : ∀ f ∈ fs, f ∈ someF) (h : RdF w A n c fs) (hv : RdV w Av nv cv ms) (hn : n ≤ 100) :
    Calls Tryz.prog 44 #[.slice A n c, .slice Av nv cv] w fun e w' => PutE fs (vsOf ms) w w' e ∧ Below w.heap.size w w' := by
  have hW := Lib.hid (wrong_any A n c fs hf w h)
  have hcap := h.cap
  have hbig := h.big
  have hlen := h.len
  rw [List.length_map] at hlen
  have HL := Lib.hid hlen
  have H := Lib.hid h
  have hlv := hv.rows.len
  rw [List.length_map] at hlv
  have HLV := Lib.hid hlv
  have HV := Lib.hid hv
  have HF := Lib.hid hf
  have hcv := hv.rows.cap
  have hbv := hv.rows.big
  clear h hf hlen hv hlv
  by_cases hnn : nv = n
  · subst hnn
    go_enter Tryz.func44, Tryz.ntmps44
    go_wp2_with (first | (go_at_call 71; (with_reducible refine hW.out.mono ?_); rintro e w1 ⟨rfl, hb1⟩) | fail)
    have HB1 := Lib.hid hb1
    clear hb1 hW
    go_loopw [7, 28] (fun o i wr => ∃ (k M : Nat) (A3 : Option Addr) (c3 : Nat), k ≤ nv ∧ i = .int .i64 k ∧ o = .slice A3 M c3 ∧ Hid (OwnB wr w.heap.size (.slice A3 M c3) (upB fs (vsOf ms) k)) ∧ Hid (upOk fs (vsOf ms) k = true) ∧ Hid (Below w.heap.size w wr)) (fun _ i _ => nv - (intOf i).toNat)
    case atStart => exact ⟨0, 0, none, 0, Nat.zero_le _, rfl, rfl, OwnB.nil _ _, rfl, HB1.out⟩
    case round =>
      obtain ⟨k, M, A3, c3, hk, rfl, rfl, hown, hok, hbw⟩ := hrel
      by_cases hlt : k < nv
      · have hi : (k : Int) < nv := by omega
        obtain ⟨f, hfk⟩ : ∃ f, fs[k]? = some f := ⟨fs[k]'(by have := HL.out; omega), List.getElem?_eq_getElem _⟩
        obtain ⟨m, hmk⟩ : ∃ m, ms[k]? = some m := ⟨ms[k]'(by have := HLV.out; omega), List.getElem?_eq_getElem _⟩
        obtain ⟨g, rfl, hgl, hce⟩ := (H.out.ext hbw.out).cell k f.cells (by rw [List.getElem?_map, hfk]; rfl)
        obtain ⟨gv, rfl, hgvw, hcev⟩ := HV.out.rows.cell k m.cells (by rw [List.getElem?_map, hmk]; rfl)
        have hcev : ∀ (j : Nat) (u : Value), m.cells[j]? = some u → wr.cell? ⟨gv, k * 3 + j, none⟩ = some u := fun j u hu => (hbw.out.cell (p := ⟨gv, k * 3 + j, none⟩) hgvw).trans (hcev j u hu)
        have hgvl : gv < wr.heap.size := Nat.lt_of_lt_of_le hgvw hbw.out.size
        have hob : Hid (∀ j, (Value.slice A3 M c3).ownBlock = some j → w.heap.size ≤ j ∧ j < wr.heap.size) := fun j hj => World.ownsRow.lt hown.out j hj
        have hld := ldF_at hce
        have hst := stF_new wr f
        have hgood : GoodF f := someF_good f (HF.out f (List.mem_of_getElem? hfk))
        have Hmk := Lib.hid (HV.out.vals m (List.mem_of_getElem? hmk))
        have hvk : (vsOf ms)[k]? = some m.v := by unfold vsOf; rw [List.getElem?_map, hmk]; rfl
        have HN := Lib.hid (up_next hfk hvk)
        have HCev := Lib.hid hcev
        have Hgood := Lib.hid hgood
        clear hce hfk hmk hcev hgood hvk
        have hbn := hbw.out.trans (below_le hbw.out.size (below_new wr (.cells #[.int .i64 f.kind, .int .i64 f.size, .int .i64 f.lo, .int .i64 f.hi, .int .i64 f.most] 154)))
        have hnew := (Bk.made wr 154 f.cells.toArray)
        have how1 := hown.out.ext (below_new wr (.cells #[.int .i64 f.kind, .int .i64 f.size, .int .i64 f.lo, .int .i64 f.hi, .int .i64 f.most] 154))
        have hgv1 : gv < (wr.alloc (.cells #[.int .i64 f.kind, .int .i64 f.size, .int .i64 f.lo, .int .i64 f.hi, .int .i64 f.most] 154)).heap.size := by simp; omega
        have hcv1 : ∀ (j : Nat) (u : Value), m.cells[j]? = some u → (wr.alloc (.cells #[.int .i64 f.kind, .int .i64 f.size, .int .i64 f.lo, .int .i64 f.hi, .int .i64 f.most] 154)).cell? ⟨gv, k * 3 + j, none⟩ = some u := fun j u hu => ((below_new wr _).cell (p := ⟨gv, k * 3 + j, none⟩) hgvl).trans (HCev.out j u hu)
        have HBn := Lib.hid hbn
        have HNew := Lib.hid hnew
        have HOw := Lib.hid how1
        have HCv := Lib.hid hcv1
        have HGv := Lib.hid hgv1
        clear hbn hnew how1 hcv1 HCev hgv1
        go_wp2_with fail
        refine wp_cut (fun w' => Below w.heap.size w w' ∧ Bk w' wr.heap.size 154 f.cells.toArray ∧ OwnB w' w.heap.size (.slice A3 M c3) (upB fs (vsOf ms) k) ∧ gv < w'.heap.size ∧ ∀ (j : Nat) (u : Value), m.cells[j]? = some u → w'.cell? ⟨gv, k * 3 + j, none⟩ = some u) ⟨HBn.out, HNew.out, HOw.out, HGv.out, HCv.out⟩ ?_
        rintro w1 ⟨hBn, hbk, hO1, hgv, hcv⟩
        have FS : Hid (∀ w', w1.grownBy w' (Value.slice A3 M c3).ownBlock → (w1.grownBy w' (Value.slice A3 M c3).ownBlock ∧ (ldF (.pointer (some ⟨wr.heap.size, 0, none⟩))).run Tryz.prog w' = .ok (.agg #[.int .i64 f.kind, .int .i64 f.size, .int .i64 f.lo, .int .i64 f.hi, .int .i64 f.most]) w' ∧ (ldV (.pointer (some ⟨gv, k * 3, none⟩))).run Tryz.prog w' = .ok (.agg #[.int .i64 m.v.n, .string m.v.s, .slice m.A m.n m.c]) w')) := fun w' hg =>
          ⟨hg, ldF_at (fun j u hu => by rw [Nat.zero_add]; exact hg.cell ((hbk.cell j).trans (by simpa using hu)) (fun e => Nat.lt_irrefl _ (show wr.heap.size < wr.heap.size from (hob.out _ e.symm).2))), ldV_at (fun j u hu => hg.cell (hcv j u hu) (fun e => Nat.lt_irrefl _ (Nat.lt_of_lt_of_le hgvw (show w.heap.size ≤ gv from (hob.out _ e.symm).1))))⟩
        have HBn1 := Lib.hid hBn
        have HO1 := Lib.hid hO1
        have r0 := below_drew1 (Below.refl w1.heap.size w1)
        have hFit := fits_any f Hgood.out m w1.drew (MVal.ext Hmk.out (below_drew1 hBn))
        clear HBn HNew HOw HCv HGv hBn hbk hO1 hgv hcv hld hst
        cases hfv : fitsV f m.v
        · rw [hfv] at hFit
          have HFit := Lib.hid hFit
          clear hFit
          go_region_held3 (fun w' => w1.grownBy w' (Value.slice A3 M c3).ownBlock ∧ (ldF (.pointer (some ⟨wr.heap.size, 0, none⟩))).run Tryz.prog w' = .ok (.agg #[.int .i64 f.kind, .int .i64 f.size, .int .i64 f.lo, .int .i64 f.hi, .int .i64 f.most]) w' ∧ (ldV (.pointer (some ⟨gv, k * 3, none⟩))).run Tryz.prog w' = .ok (.agg #[.int .i64 m.v.n, .string m.v.s, .slice m.A m.n m.c]) w') (first | exact FS.out _ ((grown_of_below hB3).but _) | exact FS.out _ ((grown_of_below r0).but _)) (first | (go_at_call 72; (with_reducible refine HFit.out.mono ?_); rintro e w3 ⟨rfl, hb3⟩; have hB3 : Below w1.heap.size w1 w3 := r0.trans hb3) | fail)
          go_wp2_with (first | (go_at_call 26; refine (wrap_err (.no 2) _ _ _).mono ?_; rintro e w4 ⟨v4, rfl, he4, rfl⟩) | fail)
          go_ret2
          have hB3 : Below w1.heap.size w1 w4 := by assumption
          refine ⟨.inr ⟨upOk_not (k := k + 1) (by rw [HN.out.2, hfv, Bool.and_false]), _, _, rfl, he4⟩, HBn1.out.trans (below_le HBn1.out.size hB3)⟩
        · rw [hfv] at hFit
          have HFit := Lib.hid hFit
          clear hFit
          go_region_held3 (fun w' => w1.grownBy w' (Value.slice A3 M c3).ownBlock ∧ (ldF (.pointer (some ⟨wr.heap.size, 0, none⟩))).run Tryz.prog w' = .ok (.agg #[.int .i64 f.kind, .int .i64 f.size, .int .i64 f.lo, .int .i64 f.hi, .int .i64 f.most]) w' ∧ (ldV (.pointer (some ⟨gv, k * 3, none⟩))).run Tryz.prog w' = .ok (.agg #[.int .i64 m.v.n, .string m.v.s, .slice m.A m.n m.c]) w') (first | exact FS.out _ ((grown_of_below hB3).but _) | exact FS.out _ ((grown_of_below r0).but _)) (first | (go_at_call 72; (with_reducible refine HFit.out.mono ?_); rintro e w3 ⟨rfl, hb3⟩; have hB3 : Below w1.heap.size w1 w3 := r0.trans hb3) | fail)
          have HB3 := Lib.hid hB3
          have r3 := below_drew1 hB3
          have HLe := Lib.hid (upB_le (fun f hf => someF_good f (HF.out f hf)) k hok.out)
          have hln : Hid ((upB fs (vsOf ms) k).length = M) := HO1.out.rd.len
          have hWr := written_any f Hgood.out m hfv w3.drew (MVal.ext Hmk.out (HBn1.out.trans (below_le HBn1.out.size r3)))
          have HWr := Lib.hid hWr
          have HWl := Lib.hid (writV_le Hgood.out hfv)
          have hS1 := Lib.hid HBn1.out.size
          clear hWr hB3 HFit
          go_wp2_with fail
          go_region_held3 (fun w' => w1.grownBy w' (Value.slice A3 M c3).ownBlock ∧ (ldF (.pointer (some ⟨wr.heap.size, 0, none⟩))).run Tryz.prog w' = .ok (.agg #[.int .i64 f.kind, .int .i64 f.size, .int .i64 f.lo, .int .i64 f.hi, .int .i64 f.most]) w' ∧ (ldV (.pointer (some ⟨gv, k * 3, none⟩))).run Tryz.prog w' = .ok (.agg #[.int .i64 m.v.n, .string m.v.s, .slice m.A m.n m.c]) w') (first | exact FS.out _ (((grown_of_below hB4).but _).trans hg5.out) | exact FS.out _ ((grown_of_below hB4).but _) | exact FS.out _ ((grown_of_below r3).but _)) (first | (go_at_call 73; (with_reducible refine HWr.out.mono ?_); rintro e w4 ⟨A4, M4, c4, rfl, ho4, hb4⟩; have hB4 : Below w1.heap.size w1 w4 := r3.trans (below_le r3.size hb4); have HO4 := Lib.hid ho4; clear ho4) | ((refine step_append_bytes (by rfl) (.tmp 43) (.tmp 49) (by rfl) w.heap.size w _ (upB fs (vsOf ms) k) (by rfl) (HO1.out.ext hB4) A4 M4 c4 (writV f m.v) (by rfl) HO4.out.rd (by have := HLe.out; have := HWl.out; have := HO4.out.rd.len; omega) (HBn1.out.trans (below_le hS1.out hB4)) (Nat.le_trans hS1.out hB4.size) (M + M4) (by rw [hln.out]) ?_; intro A5 c5 w5 ho5 hb5 hs5 hg5)) | fail)
          go_wp2_with fail
          refine ⟨⟨k + 1, M + M4, A5, c5, by omega, by go_num, rfl, by rw [HN.out.1]; exact ho5, by rw [HN.out.2, hok.out, hfv]; rfl, hb5⟩, by simp [intOf]; omega⟩
      · have hkn : k = nv := by omega
        subst hkn
        go_wp2
        go_ret2
        have hz : (List.zip fs (vsOf ms)).length = k := by rw [List.length_zip]; unfold vsOf; rw [List.length_map, HL.out, HLV.out, Nat.min_self]
        have hok' := hok.out
        have hown' := hown.out
        unfold upOk at hok'
        unfold upB at hown'
        rw [List.take_of_length_le (by omega)] at hok' hown'
        refine ⟨.inl ⟨?_, _, _, _, rfl, hown'⟩, hbw.out⟩
        unfold okAll
        rw [hok', Bool.and_true, decide_eq_true_iff]
        unfold vsOf
        rw [List.length_map, HL.out, HLV.out]
  · have hne : ((nv : Int) != (n : Int)) = true := by rw [bne_iff_ne]; omega
    go_enter Tryz.func44, Tryz.ntmps44
    go_wp2_with (first | (go_at_call 71; (with_reducible refine hW.out.mono ?_); rintro e w1 ⟨rfl, hb1⟩) | (go_at_call 26; refine (wrap_err (.no 1) _ _ _).mono ?_; rintro e w4 ⟨v4, rfl, he4, rfl⟩) | fail)
    go_ret2
    refine ⟨.inr ⟨?_, _, _, rfl, he4⟩, hb1⟩
    unfold okAll
    rw [Bool.and_eq_false_iff]
    refine .inl (decide_eq_false ?_)
    unfold vsOf
    rw [List.length_map, HL.out, HLV.out]
    exact hnn
end Go.Proofs.YtjodiieeocaipaaGreatDoor
