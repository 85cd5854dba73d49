import Derived.Test.YtkdlofgfkfhofaaGreatDoorP01
import Derived.Test.YtkdlofgfkfhofaaGreatDoorP02
import Derived.Test.YtkdlofgfkfhofaaGreatDoorP00
import Derived.Maps.OwnSet
/-
  Bytes as a string, and bytes.Equal.
-/
namespace Go.Proofs.YtkdlofgfkfhofaaGreatDoor
open Go.RowKit

theorem push_fold (l : List UInt8) : ∀ (acc : Array UInt8), (l.map w8).foldl (fun (r : ByteArray) (n : Int) => r.push (UInt8.ofNat n.toNat)) ⟨acc⟩ = ⟨acc ++ l.toArray⟩ := by
  induction l with
  | nil => intro acc; simp
  | cons b l ih =>
    intro acc
    have e : UInt8.ofNat (w8 b).toNat = b := by
      apply UInt8.toNat_inj.1
      have := b.toNat_lt
      unfold w8
      rw [UInt8.toNat_ofNat']
      omega
    show (l.map w8).foldl _ (ByteArray.push (ByteArray.mk acc) (UInt8.ofNat (w8 b).toNat)) = _
    rw [e]
    show (l.map w8).foldl _ (ByteArray.mk (acc.push b)) = _
    rw [ih]
    simp
/-- a list of bytes as a string -/
def strB (l : List UInt8) : ByteArray := ⟨l.toArray⟩
theorem strB_list (l : List UInt8) : (strB l).toList = l := by
  rw [ByteArray.toList_eq]
  rfl
theorem conv_string {w : World} {A : Option Addr} {n c : Nat} {l : List UInt8} (h : RdB w A n c l) : (convert 26 9 (.slice A n c)).run Tryz.prog w = .ok (.string (strB l)) w := by
  rw [run_convert_bytes_string w _ _ _ A n c Tryz.underlying26 Tryz.underlying5 Tryz.underlying9]
  rcases A with _ | ad
  · obtain rfl := h.none_len
    have hl : l = [] := List.eq_nil_of_length_eq_zero h.len
    subst hl
    simp [Conv.bytesToString, strB]
    rfl
  · have hn : (l.map w8).length = n := by rw [List.length_map, h.len]
    rw [run_bytesToString w ad n c (l.map w8)]
    · have := push_fold l #[]
      simp at this
      rw [show (ByteArray.empty) = (⟨#[]⟩ : ByteArray) from rfl, this]
      rfl
    · have e : (l.map w8).map (Value.int .u8) = bvs l := by simp [bvs, bv, Function.comp_def]
      rw [e]
      have := run_loadCells_list (P := Tryz.prog) w ad (bvs l) (fun j v hv => by
        obtain ⟨ad', ea, _, hc⟩ := Rd.cell h j v hv
        injection ea with ea
        subst ea
        exact hc)
      rw [bvs_len, h.len] at this
      exact this
set_option maxRecDepth 100000 in
set_option maxHeartbeats 400000 in
theorem equal_any (A : Option Addr) (n c : Nat) (l : List UInt8) (A' : Option Addr) (n' c' : Nat) (l' : List UInt8) (w : World) (h : RdB w A n c l) (h' : RdB w A' n' c' l') :
    Calls Tryz.prog 259 #[.slice A n c, .slice A' n' c'] w fun e w' => e = .returned (.bool (decide (l = l'))) ∧ w = w' := by
  have e1 := conv_string h
  have e2 := conv_string h'
  have k1 := strB_list l
  have k2 := strB_list l'
  clear h h'
  go_enter Tryz.func259, Tryz.ntmps259
  go_wp2
  go_ret
  exact ⟨ret_bool (by rw [Bool.eq_iff_iff]; simp), rfl⟩
end Go.Proofs.YtkdlofgfkfhofaaGreatDoor

/-
  The walk of frame.Get.
-/
namespace Go.Proofs.YtkdlofgfkfhofaaGreatDoor
open Go.RowKit CrcMath
attribute [local go_sem] w8_nn w8_256 wrap_i64_w8 wrap64_w8 pastA_zero pastA_some Frm.c0 Frm.c1 Frm.c2 Frm.c3
attribute [local go_sem ↓] sliced_past ldFr_eq stFr_eq bdF_eq

/-- the frame that 128 bytes are read as -/
def frmOf (l : List UInt8) : Frm := ⟨w8 (l[2]?.getD 0), w8 (l[3]?.getD 0), wrapN (leN ((l.drop 4).take 4)), wrapN (leN ((l.drop 8).take 8)), (l.drop 16).take 108⟩
/-- is it good; what is handed back -/
def got (l : List UInt8) : Bool := decide (l.length = 128) && ((frmOf l).right && decide ((frmOf l).put = l))
def gotF (l : List UInt8) : Frm := if got l then frmOf l else zeroF
theorem frmOf_len (l : List UInt8) (h : l.length = 128) : (frmOf l).data.length = 108 := by simp [frmOf, h]
theorem gotF_len (l : List UInt8) : (gotF l).data.length = 108 := by
  unfold gotF
  split
  · rename_i h
    unfold got at h
    simp at h
    exact frmOf_len l h.1
  · exact blank_len
theorem gotF_no {l : List UInt8} (h : got l = false) : gotF l = zeroF := by simp [gotF, h]
theorem gotF_yes {l : List UInt8} (h : got l = true) : gotF l = frmOf l := by simp [gotF, h]
/-- the results of a function that hands back a frame and a bool -/
theorem res_frm {fn : Func} {p u : Tmp} (h : fn.results = #[.cell p 273, .tmp u]) (tmps : Array Value) (w : World) (g : Nat) (f : Frm) (hp : tmps.getD p undef = .pointer (some ⟨g, 0, none⟩)) (hb : Bk w g 273 f.cells) (hl : f.data.length = 108) :
    (results fn tmps).run Tryz.prog w = .ok (.tuple #[.agg f.cells, tmps.getD u undef]) w := by
  rw [results_cell_tmp h, hp]
  simp only [asAddr, Sem.run_pure, Result.andThen_ok, run_loadVar_row w g _ _ f.cells (0, 0) _ hb Tryz.underlying273 rfl (size_of hl)]

theorem splice4 (a b c d : Value) (new : List UInt8) (h : new.length = 108) : splice (a :: b :: c :: d :: bvs blank) 4 (bvs new) = a :: b :: c :: d :: bvs new := by
  have h1 : (bvs new).length = 108 := by rw [bvs_len, h]
  have h2 : (bvs blank).length = 108 := by rw [bvs_len, blank_len]
  unfold splice
  simp [h1, h2]
theorem put_len {f : Frm} (hl : f.data.length = 108) : f.put.length = 128 := by simp [Frm.put, Frm.head, leB_len, hl]
theorem equal_at (A : Option Addr) (n c : Nat) (l : List UInt8) (A' : Option Addr) (n' c' : Nat) (l' : List UInt8) (w : World) (h : RdB w A n c l) (h' : RdB w A' n' c' l') (b : Bool) (hb : decide (l = l') = b) :
    Calls Tryz.prog 259 #[.slice A n c, .slice A' n' c'] w fun e w' => e = .returned (.bool b) ∧ w = w' := by
  rw [← hb]
  exact equal_any A n c l A' n' c' l' w h h'

set_option maxRecDepth 100000 in
set_option maxHeartbeats 400000 in
theorem get_len (A : Option Addr) (n c : Nat) (w : World) (hn : ¬ n = 128) :
    Calls Tryz.prog 219 #[.slice A n c] w fun e w' => e = .returned (.tuple #[.agg zeroF.cells, .bool false]) ∧ Below w.heap.size w w' := by
  have hz := zero_frm
  have t0 : ((n : Int) != 128) = true := by rw [bne_iff_ne]; omega
  have hbd := bdF_none
  have hst := stFr_new w zeroF zeroF blank_len blank_len
  go_enter Tryz.func219, Tryz.ntmps219
  go_wp2
  exact bodyPost_ret (res_frm rfl _ _ w.heap.size zeroF rfl (Bk.made w _ _) blank_len) rfl ⟨rfl, below_new _ _⟩
set_option maxRecDepth 100000 in
set_option maxHeartbeats 1000000 in
theorem get_128 (A : Option Addr) (c : Nat) (l : List UInt8) (w : World) (hr : RdB w A 128 c l) :
    Calls Tryz.prog 219 #[.slice A 128 c] w fun e w' => e = .returned (.tuple #[.agg (gotF l).cells, .bool (got l)]) ∧ Below w.heap.size w w' := by
  have hz := zero_frm
  have hbd := bdF_none
  have hbd4 := bdF_four
  have hlen := hr.len
  have hcap := hr.cap
  have hbig := hr.big
  obtain ⟨ad, x2, rfl, _, h2, d2⟩ := hr.get (k := 2) (by omega)
  obtain ⟨_, x3, e3, _, h3, d3⟩ := hr.get (k := 3) (by omega)
  injection e3 with e3; subst e3
  have d2 : w.cell? ⟨ad.block, ad.off + 2, none⟩ = some (.int .u8 (w8 x2)) := d2
  have d3 : w.cell? ⟨ad.block, ad.off + 3, none⟩ = some (.int .u8 (w8 x3)) := d3
  have hlt : ad.block < w.heap.size := cell_lt (a := ⟨ad.block, ad.off + 2, none⟩) d2
  have HR := Lib.hid hr
  have HL := Lib.hid hlen
  clear hr hlen
  have hF : Hid (frmOf l = ⟨w8 x2, w8 x3, wrapN (leN ((l.drop 4).take 4)), wrapN (leN ((l.drop 8).take 8)), (l.drop 16).take 108⟩) := by
    unfold frmOf
    rw [h2.out, h3.out]
    rfl
  clear h2 h3
  have c4 : (4 : Int) ≤ (c : Int) := by omega
  have c8 : (8 : Int) ≤ (c : Int) := by omega
  have c16 : (16 : Int) ≤ (c : Int) := by omega
  have c124 : (124 : Int) ≤ (c : Int) := by omega
  go_enter Tryz.func219, Tryz.ntmps219
  go_wp2_with fail
  refine wp_cut (fun w' => Bk w' w.heap.size 273 zeroF.cells ∧ Below w.heap.size w w' ∧ w.heap.size < w'.heap.size) ⟨Bk.made w _ _, below_new _ _, by simp⟩ ?_
  rintro w1 ⟨hb1, hB1, hs1⟩
  have HB1 := Lib.hid hb1
  clear hb1
  have FS : Hid (∀ w', Below w.heap.size w w' → (Below w.heap.size w w' ∧ w'.cell? ⟨ad.block, ad.off + 2, none⟩ = some (.int .u8 (w8 x2)) ∧ w'.cell? ⟨ad.block, ad.off + 3, none⟩ = some (.int .u8 (w8 x3)))) := fun w' hb =>
    ⟨hb, ((bcell hb).1 _ _ hlt).trans d2, ((bcell hb).1 _ _ hlt).trans d3⟩
  clear d2 d3
  have hst := stF_newd w1 zeroF ⟨w8 x2, w8 x3, wrapN (leN ((l.drop 4).take 4)), wrapN (leN ((l.drop 8).take 8)), blank⟩ blank_len blank_len
  go_region_held3 (fun w' => Below w.heap.size w w' ∧ w'.cell? ⟨ad.block, ad.off + 2, none⟩ = some (.int .u8 (w8 x2)) ∧ w'.cell? ⟨ad.block, ad.off + 3, none⟩ = some (.int .u8 (w8 x3)))
    (first | exact FS.out _ (below_drew1 hB1) | exact FS.out _ (below_drew1 (hB1.alloc (Nat.le_of_lt hs1) _)))
    (first | (go_at_call 258; (with_reducible refine (number_any _ 4 _ ((l.drop 4).take 4) _ ?_ ?_).mono ?_); exact ((HR.out.past' 4 (by omega)).upto 4 (by omega)).ext (by first | exact below_drew1 hB1 | exact below_drew1 (hB1.alloc (Nat.le_of_lt hs1) _)); omega; rintro e wz ⟨rfl, rfl⟩) | (go_at_call 258; (with_reducible refine (number_any _ 8 _ ((l.drop 8).take 8) _ ?_ ?_).mono ?_); exact ((HR.out.past' 8 (by omega)).upto 8 (by omega)).ext (by first | exact below_drew1 hB1 | exact below_drew1 (hB1.alloc (Nat.le_of_lt hs1) _)); omega; rintro e wz ⟨rfl, rfl⟩))
  all_goals
    clear hst
    go_wp2_with fail
    refine wp_cut (fun w' => Bk w' w.heap.size 273 zeroF.cells ∧ Bk w' w1.heap.size 273 (Frm.cells ⟨w8 x2, w8 x3, wrapN (leN ((l.drop 4).take 4)), wrapN (leN ((l.drop 8).take 8)), blank⟩) ∧ Below w.heap.size w w' ∧ w1.heap.size < w'.heap.size)
      ⟨(HB1.out.alloc _).drawn1, (Bk.made _ _ _).drawn1, below_drew1 (hB1.alloc (Nat.le_of_lt hs1) _), by simp⟩ ?_
    rintro w2 ⟨hz2, hf2, hB2, hs2⟩
    have HZ2 := Lib.hid hz2
    have HF2 := Lib.hid hf2
    have HR2 := Lib.hid (((HR.out.past' 16 (by omega)).upto 108 (by omega)).ext (below_drew1 hB2))
    clear hz2 hf2
    have hBw : Below w1.heap.size w2 w2.drew := below_drew1 (Below.refl _ _)
    go_region_held3 (fun w' => Below w1.heap.size w2 w') (first | exact hB3 | exact hBw) ((refine step_copy_bytes (by rfl) (.tmp 25) (.tmp 27) 26 26 (by rfl) 5 Tryz.underlying26 size_byte (some ⟨w1.heap.size, 4, none⟩) 108 108 108 (c - 16) (pastA (some ad) 16 c 1) (by rfl) (by rfl) w1.heap.size 4 (.int .i64 (w8 x2) :: .int .i64 (w8 x3) :: .int .i64 (wrapN (leN ((l.drop 4).take 4))) :: .int .i64 (wrapN (leN ((l.drop 8).take 8))) :: bvs blank) 273 (Bk.drawn1 HF2.out) ((l.drop 16).take 108) HR2.out (by rfl) (by simp [bvs_len, blank_len]) w1.heap.size w2 hBw (Nat.le_refl _) ?_; intro w3 hb3 hB3))
    have hB : Below w.heap.size w w3 := hB2.trans (below_le (Nat.le_of_lt hs1) hB3)
    have hs3 : w1.heap.size < w3.heap.size := Nat.lt_of_lt_of_le hs2 hB3.size
    have hz3 : Bk w3 w.heap.size 273 zeroF.cells := HZ2.out.below hB3 hs1
    have hdl := frmOf_len l HL.out
    have hf3 : Bk w3 w1.heap.size 273 (frmOf l).cells := by
      have h := hb3.out
      rw [List.take_take, Nat.min_self, splice4 _ _ _ _ _ (by rw [List.length_take, List.length_drop, HL.out]; omega)] at h
      rw [hF.out]
      exact h
    have hld := ldFr_bk hf3 hdl
    have HR3 := Lib.hid (HR.out.ext hB)
    have HZ3 := Lib.hid hz3
    have HF3 := Lib.hid hf3
    clear hz3 hf3 hb3 hB3 hB2 hBw HR2 HF2 HZ2 hs2 HR HB1 hB1 FS
    cases hrt : (frmOf l).right
    · have hgot : got l = false := by simp [got, hrt]
      have Hgot := Lib.hid hgot
      have hne : decide ([] = l) = false := by
        rw [decide_eq_false_iff_not]
        rintro rfl
        have := HL.out
        simp at this
      have Hne := Lib.hid hne
      clear hgot hne
      go_wp2_with fail
      refine (put_no (frmOf l) hdl hrt _).mono ?_
      rintro e w4 ⟨rfl, hb4⟩
      have hst := stF_bk w4 w.heap.size zeroF zeroF (HZ3.out.ext hb4) blank_len blank_len
      have hB4 := hB.trans (below_le hB.size hb4)
      go_wp2_with fail
      refine (equal_at none 0 0 [] (some ad) 128 c l w4 (RdB.nil _) (HR3.out.ext hb4) false Hne.out).mono ?_
      rintro e w5 ⟨rfl, rfl⟩
      go_wp2
      refine bodyPost_ret (res_frm rfl _ _ w.heap.size zeroF rfl (Bk.rowF (HZ3.out.ext hb4) _) blank_len) rfl ⟨?_, hB4.grown (grown_rowF _ _ _) hB4.size (fun k hk => by injection hk with hk; omega)⟩
      rw [gotF_no Hgot.out, Hgot.out]
      rfl
    · cases heq : decide ((frmOf l).put = l)
      · have hgot : got l = false := by simp [got, hrt]; intro _; exact of_decide_eq_false heq
        have Hgot := Lib.hid hgot
        have Heq := Lib.hid heq
        clear hgot heq
        go_wp2_with fail
        refine (put_yes (frmOf l) hdl hrt _).mono ?_
        rintro e w4 ⟨gp, hgp, rfl, hbp, hb4⟩
        have hst := stF_bk w4 w.heap.size zeroF zeroF (HZ3.out.ext hb4) blank_len blank_len
        have hB4 := hB.trans (below_le hB.size hb4)
        have hpl : (frmOf l).put.length = 128 := put_len hdl
        go_wp2_with fail
        refine (equal_at _ 128 128 (frmOf l).put (some ad) 128 c l w4 (hbp.whole 128 128 hpl.symm (Nat.le_refl _) (by omega)) (HR3.out.ext hb4) false Heq.out).mono ?_
        rintro e w5 ⟨rfl, rfl⟩
        clear hbp
        go_wp2
        refine bodyPost_ret (res_frm rfl _ _ w.heap.size zeroF rfl (Bk.rowF (HZ3.out.ext hb4) _) blank_len) rfl ⟨?_, hB4.grown (grown_rowF _ _ _) hB4.size (fun k hk => by injection hk with hk; omega)⟩
        rw [gotF_no Hgot.out, Hgot.out]
        rfl
      · have hgot : got l = true := by simp [got, hrt, HL.out]; exact of_decide_eq_true heq
        have Hgot := Lib.hid hgot
        have Heq := Lib.hid heq
        clear hgot heq
        go_wp2_with fail
        refine (put_yes (frmOf l) hdl hrt _).mono ?_
        rintro e w4 ⟨gp, hgp, rfl, hbp, hb4⟩
        have hst := stF_bk w4 w.heap.size zeroF (frmOf l) (HZ3.out.ext hb4) blank_len hdl
        have hld4 := ldFr_bk (HF3.out.ext hb4) hdl
        have hB4 := hB.trans (below_le hB.size hb4)
        have hpl : (frmOf l).put.length = 128 := put_len hdl
        go_wp2_with fail
        refine (equal_at _ 128 128 (frmOf l).put (some ad) 128 c l w4 (hbp.whole 128 128 hpl.symm (Nat.le_refl _) (by omega)) (HR3.out.ext hb4) true Heq.out).mono ?_
        rintro e w5 ⟨rfl, rfl⟩
        clear hbp
        go_wp2
        refine bodyPost_ret (res_frm rfl _ _ w.heap.size (frmOf l) rfl (Bk.rowF (HZ3.out.ext hb4) _) hdl) rfl ⟨?_, hB4.grown (grown_rowF _ _ _) hB4.size (fun k hk => by injection hk with hk; omega)⟩
        rw [gotF_yes Hgot.out, Hgot.out]
        rfl
theorem get_any (A : Option Addr) (n c : Nat) (l : List UInt8) (w : World) (hr : RdB w A n c l) :
    Calls Tryz.prog 219 #[.slice A n c] w fun e w' => e = .returned (.tuple #[.agg (gotF l).cells, .bool (got l)]) ∧ Below w.heap.size w w' := by
  by_cases hn : n = 128
  · subst hn
    exact get_128 A c l w hr
  · have hg : got l = false := by
      have : ¬ l.length = 128 := by rw [hr.len]; exact hn
      simp [got, this]
    rw [gotF_no hg, hg]
    exact get_len A n c w hn
end Go.Proofs.YtkdlofgfkfhofaaGreatDoor

/-
  The store's functions as data: frames of sectors, superblocks, the journal.
-/
namespace Go.Proofs.YtkdlofgfkfhofaaGreatDoor
open CrcMath

instance : DecidableEq Frm := fun a b => by
  cases a; cases b
  simp only [Frm.mk.injEq]
  infer_instance
/-- frame.Put -/
def putF (f : Frm) : List UInt8 := if f.right = true then f.put else []
/-- rack.Get -/
def RackM.get (M : RackM) (i s kind slot stripe : Int) : Option Frm :=
  match M.read i s with
  | .error _ => none
  | .ok b => if got b = true ∧ (frmOf b).kind = kind ∧ (frmOf b).slot = slot ∧ (stripe < 0 ∨ (frmOf b).stripe = stripe) then some (frmOf b) else none
structure CfgM where
  id : Int
  k : Int
  n : Int
  stripes : Int
  slots : Int
instance : DecidableEq CfgM := fun a b => by
  cases a; cases b
  simp only [CfgM.mk.injEq]
  infer_instance
def CfgM.right (c : CfgM) : Bool := inB c.id 1 2147483647 && (inB c.n 1 8 && (inB c.k 1 c.n && (inB c.stripes 1 64 && inB c.slots 1 4)))
def CfgM.sectors (c : CfgM) : Int := 1 + c.slots * c.k + c.stripes
def CfgM.fits (c : CfgM) (M : RackM) : Bool := c.right && (decide (c.n = M.n) && decide (c.sectors ≤ M.sectors))
/-- the superblock's frame of a disk -/
def CfgM.block (c : CfgM) (i : Int) : Frm := ⟨1, i, 0, 1, leB 4 c.id.toNat ++ (UInt8.ofNat c.k.toNat :: UInt8.ofNat c.n.toNat :: UInt8.ofNat c.stripes.toNat :: UInt8.ofNat c.slots.toNat :: rep 100 0)⟩
/-- the configuration that a frame tells -/
def cfgOf (f : Frm) : CfgM := ⟨leN (f.data.take 4), w8 (f.data[4]?.getD 0), w8 (f.data[5]?.getD 0), w8 (f.data[6]?.getD 0), w8 (f.data[7]?.getD 0)⟩
def superPut (M : RackM) (c : CfgM) (i : Int) : RackM × Int :=
  if c.fits M = false then (M, 1)
  else match M.write i 0 (putF (c.block i)) with
    | (M', k) => if k ≠ 0 then (M', k) else M'.flush i
def superGet (M : RackM) (i : Int) : Option CfgM :=
  match M.get i 0 1 i 0 with
  | none => none
  | some f => if (cfgOf f).right = true ∧ f = (cfgOf f).block i then some (cfgOf f) else none
/-- super.Find's rounds -/
def findGo (M : RackM) : List Nat → CfgM × Int → CfgM × Int
  | [], p => p
  | i :: r, (c, n) => findGo M r (match superGet M i with
    | none => (c, n)
    | some x => if n = 0 then (x, 1) else if x = c then (c, n + 1) else (c, n))
def noCfg : CfgM := ⟨0, 0, 0, 0, 0⟩
def superFind (M : RackM) : CfgM × Int :=
  match findGo M (List.range M.n) (noCfg, 0) with
  | (c, n) => if n = 0 ∨ n < c.k ∨ c.fits M = false then (noCfg, 7) else (c, 0)

/-! ### many writes, many flushes -/
def writesM (M : RackM) : List (Int × Int × List UInt8) → RackM × Int
  | [] => (M, 0)
  | (d, s, b) :: r => match M.write d s b with
    | (M', k) => if k ≠ 0 then (M', k) else writesM M' r
def flushesM (M : RackM) : List Int → RackM × Int
  | [] => (M, 0)
  | d :: r => match M.flush d with
    | (M', k) => if k ≠ 0 then (M', k) else flushesM M' r

/-! ### the journal -/
structure RecM where
  seq : Int
  stripe : Int
  blocks : List (List UInt8)
def sectorJ (c : CfgM) (slot i : Int) : Int := 1 + slot * c.k + i
def frameJ (x : RecM) (i : Nat) : Frm := ⟨2, i, x.stripe, x.seq, (x.blocks[i]?).getD (rep 108 0)⟩
def writesJ (M : RackM) (c : CfgM) (slot : Int) (x : RecM) : List (Int × Int × List UInt8) :=
  M.online.flatMap fun (d : Nat) => (List.range c.k.toNat).map fun (i : Nat) => ((d : Int), sectorJ c slot i, putF (frameJ x i))
def putJ (M : RackM) (c : CfgM) (slot : Int) (x : RecM) : RackM × Int :=
  match writesM M (writesJ M c slot x) with
  | (M', k) => if k ≠ 0 then (M', k) else flushesM M' (onlineI M')
def logJ (M : RackM) (c : CfgM) (x : RecM) : RackM × Int :=
  if c.fits M = false ∨ x.seq < 2 ∨ 1152921504606846976 < x.seq ∨ x.stripe < 0 ∨ c.stripes ≤ x.stripe ∨ (x.blocks.length : Int) ≠ c.k then (M, 1) else putJ M c (x.seq % c.slots) x
def knownJ (M : RackM) (c : CfgM) (slot : Int) : Bool := c.fits M && (decide (0 ≤ slot) && decide (slot < c.slots))
def blankJ (M : RackM) (c : CfgM) (slot : Int) : RackM × Int := if knownJ M c slot = false then (M, 1) else putJ M c slot ⟨0, 0, []⟩
def goodJ (M : RackM) (c : CfgM) (d slot i : Int) : Option Frm :=
  match M.get d (sectorJ c slot i) 2 i (-1) with
  | none => none
  | some f => if c.stripes ≤ f.stripe ∨ f.gen = 1 ∨ (1 < f.gen ∧ f.gen % c.slots ≠ slot) then none else some f
def goodsJ (M : RackM) (c : CfgM) (slot i : Int) : List Frm := (List.range c.n.toNat).filterMap fun (d : Nat) => goodJ M c d slot i
/-- journal.whole's rounds: the stripe, once the first place has told it -/
def wholeGo (seq : Int) : Option Int → List (List Frm) → Option (Int × List (List UInt8))
  | st, [] => some (st.getD 0, [])
  | st, fs :: r => match fs.find? fun f => decide (f.gen = seq) && (st.isNone || decide (st = some f.stripe)) with
    | none => none
    | some f => (wholeGo seq (some f.stripe) r).map fun p => (p.1, f.data :: p.2)
def wholeJ (l : List (List Frm)) (seq : Int) : Option RecM := (wholeGo seq none l).map fun p => ⟨seq, p.1, p.2⟩
end Go.Proofs.YtkdlofgfkfhofaaGreatDoor

/-
  What turns of a world, and what does not.
-/
namespace Go.Proofs.YtkdlofgfkfhofaaGreatDoor
open Go.RowKit Go.Maps

/-- only blocks of P turned, and new ones came -/
structure Turned (P : Nat → Prop) (w w' : World) : Prop where
  os : w'.os = w.os
  tape : w'.tape = w.tape
  output : w'.output = w.output
  size : w.heap.size ≤ w'.heap.size
  block : ∀ i, i < w.heap.size → ¬ P i → w'.heap[i]? = w.heap[i]?
/-- P, and whatever is new -/
def Wide (P : Nat → Prop) (w : World) (i : Nat) : Prop := P i ∨ w.heap.size ≤ i
section
variable {P Q : Nat → Prop} {w w1 w' w0 : World} {B : Nat} {row : Option Nat}
theorem Turned.refl (P : Nat → Prop) (w : World) : Turned P w w := ⟨rfl, rfl, rfl, Nat.le_refl _, fun _ _ _ => rfl⟩
theorem Turned.of_grown (h : w.grownBy w' row) (hr : ∀ k, row = some k → P k) : Turned P w w' :=
  ⟨h.os, h.tape, h.output, h.size, fun i hi hp => h.block i hi (fun e => hp (hr i e.symm))⟩
theorem Turned.of_below (h : Below w.heap.size w w') : Turned P w w' := ⟨h.os, h.tape, h.output, h.size, fun i hi _ => h.block i hi⟩
theorem Turned.trans (h : Turned P w w1) (h2 : Turned Q w1 w') (hq : ∀ i, i < w.heap.size → Q i → P i) : Turned P w w' :=
  ⟨h2.os.trans h.os, h2.tape.trans h.tape, h2.output.trans h.output, Nat.le_trans h.size h2.size, fun i hi hp => (h2.block i (Nat.lt_of_lt_of_le hi h.size) (fun hx => hp (hq i hi hx))).trans (h.block i hi hp)⟩
theorem Turned.wide (h : Turned P w w1) (h2 : Turned (Wide P w) w1 w') : Turned P w w' := h.trans h2 fun i hi hq => by
  rcases hq with hq | hq
  · exact hq
  · omega
theorem Turned.more (h : Turned P w w') (hq : ∀ i, i < w.heap.size → P i → Q i) : Turned Q w w' :=
  ⟨h.os, h.tape, h.output, h.size, fun i hi hp => h.block i hi (fun hx => hp (hq i hi hx))⟩
theorem Turned.below (h : Turned P w w') (hb : Below B w0 w) (hB : B ≤ w.heap.size) (hp : ∀ i, P i → B ≤ i) : Below B w0 w' :=
  ⟨h.os.trans hb.os, h.tape.trans hb.tape, h.output.trans hb.output, Nat.le_trans hb.size h.size, fun i hi => (h.block i (by omega) (fun hx => by have := hp i hx; omega)).trans (hb.block i hi)⟩
theorem Turned.then_grown (h : Turned P w w1) (h2 : w1.grownBy w' row) (hr : ∀ k, row = some k → P k ∨ w.heap.size ≤ k) : Turned P w w' := h.wide (Turned.of_grown h2 hr)
theorem Turned.then_below (h : Turned P w w1) (h2 : Below w1.heap.size w1 w') : Turned P w w' := h.wide (Turned.of_below h2)
theorem Bk.turned {g : Nat} {t : TypeId} {cs : Array Value} (h : Bk w g t cs) (ht : Turned P w w') (hp : ¬ P g) : Bk w' g t cs := (ht.block g h.lt hp).trans h
theorem turned_cell {Q : Nat → Prop} (h : Turned Q w w') {p : Addr} (hl : p.block < w.heap.size) (hq : ¬ Q p.block) : w'.cell? p = w.cell? p := by
  unfold World.cell?
  rw [h.block p.block hl hq]
theorem own_turned {base : Nat} {e : TypeId} {size : Nat} {v : Value} {n : Nat} {xs : List Value} (h : w.ownsRow base e size v n xs) (ht : Turned P w w') (hp : ∀ g, v.ownBlock = some g → ¬ P g) : w'.ownsRow base e size v n xs := by
  refine ⟨h.1, ?_⟩
  rcases h.2 with h2 | ⟨g, cap, cur, rfl, hb, hg, h3⟩
  · exact .inl h2
  · exact .inr ⟨g, cap, cur, rfl, hb, (ht.block g (Array.getElem?_eq_some_iff.1 hg).1 (hp g rfl)).trans hg, h3⟩
theorem map_turned {H : Type} {k : TypeId} {R : Value → Option (DataW H × List MemPlace)} {b n : Nat} {D : DataW H} (h : w.ownsMap Tryz.prog k R b n D) (ht : Turned P w w') (hp : ¬ P b) : w'.ownsMap Tryz.prog k R b n D := by
  have hlt := h.lt
  obtain ⟨es, clock, hb, F, hs, hD⟩ := h
  exact ⟨es, clock, (ht.block b hlt hp).trans hb, F, hs, hD⟩
end
/-- an element as it stands -/
def rawElem (v : Value) : Option (DataW Value × List MemPlace) := some (.held v, [])
end Go.Proofs.YtkdlofgfkfhofaaGreatDoor

/-
  Disks and racks in memory.
-/
namespace Go.Proofs.YtkdlofgfkfhofaaGreatDoor
open Go.RowKit Go.Maps

/-- the map of what waits -/
structure WtAt (w : World) (P : Nat → Prop) (D : DataW Value) (M : DskM) : Prop where
  yes : ∀ i b, M.wt i = some b → ∃ v, Maps.has D (.int .i64 (i : Int)) = true ∧ (∀ z, D.atKey (.int .i64 (i : Int)) z = .held v) ∧ OwnB w 0 v b ∧ ∀ g, v.ownBlock = some g → P g
  no : ∀ i, M.wt i = none → Maps.has D (.int .i64 (i : Int)) = false
  keys : ∀ k, Maps.has D k = true → ∃ i : Nat, k = .int .i64 (i : Int) ∧ i < M.n
theorem OwnB.turned {w w' : World} {Q : Nat → Prop} {v : Value} {l : List UInt8} (h : OwnB w 0 v l) (ht : Turned Q w w') (hp : ∀ g, v.ownBlock = some g → ¬ Q g) : OwnB w' 0 v l := own_turned h ht hp
theorem RdB.turned {w w' : World} {Q : Nat → Prop} {A : Option Addr} {n c : Nat} {l : List UInt8} (h : RdB w A n c l) (ht : Turned Q w w') (hA : ∀ ad, A = some ad → ¬ Q ad.block) : RdB w' A n c l :=
  ⟨Rd.len h, Rd.cap h, Rd.big h, fun k u hu => by
    obtain ⟨ad, e, hb, hc⟩ := Rd.cell h k u hu
    refine ⟨ad, e, Nat.lt_of_lt_of_le hb ht.size, ?_⟩
    have h2 : (ad.add k).block = ad.block := add_block ad k
    have h3 := ht.block (ad.add k).block (by rw [h2]; exact hb) (by rw [h2]; exact hA ad e)
    unfold World.cell? at hc ⊢
    rw [h3]
    exact hc⟩
theorem OwnB.low {w : World} {B : Nat} {v : Value} {l : List UInt8} (h : OwnB w B v l) : OwnB w 0 v l :=
  ⟨h.1, h.2.imp id fun ⟨g, cap, cur, h1, _, h3⟩ => ⟨g, cap, cur, h1, Nat.zero_le _, h3⟩⟩
theorem OwnB.moreD {w : World} {B B' : Nat} {v : Value} {l : List UInt8} (h : OwnB w B' v l) (hB : B ≤ B') : OwnB w B v l :=
  ⟨h.1, h.2.imp id fun ⟨g, cap, cur, h1, h2, h3⟩ => ⟨g, cap, cur, h1, Nat.le_trans hB h2, h3⟩⟩
theorem OwnB.turnB {w w' : World} {B : Nat} {Q : Nat → Prop} {v : Value} {l : List UInt8} (h : OwnB w B v l) (ht : Turned Q w w') (hp : ∀ g, v.ownBlock = some g → ¬ Q g) : OwnB w' B v l := own_turned h ht hp
theorem cell_ltD {w : World} {p : Addr} {u : Value} (h : w.cell? p = some u) : p.block < w.heap.size := by
  rcases Nat.lt_or_ge p.block w.heap.size with hlt | hge
  · exact hlt
  · unfold World.cell? at h
    rw [Array.getElem?_eq_none hge] at h
    cases h
theorem grown_cellD {w w' : World} {row : Option Nat} (h : w.grownBy w' row) (p : Addr) (hl : p.block < w.heap.size) (hne : some p.block ≠ row) : w'.cell? p = w.cell? p := by
  unfold World.cell?
  rw [h.block p.block hl hne]
theorem OwnB.lt {w : World} {B : Nat} {v : Value} {l : List UInt8} (h : OwnB w B v l) : ∀ g, v.ownBlock = some g → g < w.heap.size := fun g hg => (World.ownsRow.lt h g hg).2
theorem WtAt.turned {w w' : World} {P Q : Nat → Prop} {D : DataW Value} {M : DskM} (h : WtAt w P D M) (ht : Turned Q w w') (hd : ∀ i, i < w.heap.size → P i → ¬ Q i) : WtAt w' P D M :=
  ⟨fun i b hb => by
    obtain ⟨v, h1, h2, h3, h4⟩ := h.yes i b hb
    exact ⟨v, h1, h2, h3.turned ht (fun g hg => hd g (h3.lt g hg) (h4 g hg)), h4⟩, h.no, h.keys⟩
theorem WtAt.more {w : World} {P Q : Nat → Prop} {D : DataW Value} {M : DskM} (h : WtAt w P D M) (hq : ∀ i, i < w.heap.size → P i → Q i) : WtAt w Q D M :=
  ⟨fun i b hb => by
    obtain ⟨v, h1, h2, h3, h4⟩ := h.yes i b hb
    exact ⟨v, h1, h2, h3, fun g hg => hq g (h3.lt g hg) (h4 g hg)⟩, h.no, h.keys⟩
/-- the slice of sectors -/
structure SecAt (w : World) (P : Nat → Prop) (lb : Nat) (C : Array Value) (M : DskM) : Prop where
  bk : Bk w lb 26 C
  own : P lb
  at_ : ∀ i, i < M.n → ∃ v, C[i]? = some v ∧ OwnB w 0 v (M.sec i) ∧ ∀ g, v.ownBlock = some g → P g
theorem SecAt.turned {w w' : World} {P Q : Nat → Prop} {lb : Nat} {C : Array Value} {M : DskM} (h : SecAt w P lb C M) (ht : Turned Q w w') (hd : ∀ i, i < w.heap.size → P i → ¬ Q i) : SecAt w' P lb C M :=
  ⟨h.bk.turned ht (hd _ h.bk.lt h.own), h.own, fun i hi => by
    obtain ⟨v, h1, h2, h3⟩ := h.at_ i hi
    exact ⟨v, h1, h2.turned ht (fun g hg => hd g (h2.lt g hg) (h3 g hg)), h3⟩⟩
theorem SecAt.more {w : World} {P Q : Nat → Prop} {lb : Nat} {C : Array Value} {M : DskM} (h : SecAt w P lb C M) (hq : ∀ i, i < w.heap.size → P i → Q i) : SecAt w Q lb C M :=
  ⟨h.bk, hq _ h.bk.lt h.own, fun i hi => by
    obtain ⟨v, h1, h2, h3⟩ := h.at_ i hi
    exact ⟨v, h1, h2, fun g hg => hq g (h2.lt g hg) (h3 g hg)⟩⟩
/-- the map of what rotted -/
structure RotAt (w : World) (P : Nat → Prop) (rb : Nat) (n : Nat) : Prop where
  at_ : ∃ E : DataW Unit, w.ownsMap Tryz.prog 3 (plainElem Tryz.prog 4) rb 128 E ∧ ∀ k, Maps.has E k = true → ∃ i : Nat, k = .int .i64 (i : Int) ∧ i < n
  own : P rb
theorem RotAt.lt {w : World} {P : Nat → Prop} {rb n : Nat} (h : RotAt w P rb n) : rb < w.heap.size := by
  obtain ⟨E, h, _⟩ := h.at_
  exact h.lt
theorem RotAt.turned {w w' : World} {P Q : Nat → Prop} {rb n : Nat} (h : RotAt w P rb n) (ht : Turned Q w w') (hd : ∀ i, i < w.heap.size → P i → ¬ Q i) : RotAt w' P rb n := by
  have hl := h.lt
  obtain ⟨⟨E, h1, h2⟩, h3⟩ := h
  exact ⟨⟨E, map_turned h1 ht (hd _ hl h3), h2⟩, h3⟩
theorem RotAt.more {w : World} {P Q : Nat → Prop} {rb n : Nat} (h : RotAt w P rb n) (hq : ∀ i, i < w.heap.size → P i → Q i) : RotAt w Q rb n := ⟨h.at_, hq _ h.lt h.own⟩
/-- the parts of a disk: its block, the slice of sectors, the map of what waits, the map of what rotted -/
structure DskP (w : World) (P : Nat → Prop) (d lb wb rb cap : Nat) (C : Array Value) (D : DataW Value) (M : DskM) : Prop where
  ok : M.Ok
  own : P d
  bk : Bk w d 182 #[.slice (some ⟨lb, 0, none⟩) M.n cap, .map (some wb), .map (some rb), .bool M.dead]
  room : M.n ≤ cap
  big : cap ≤ 9223372036854775807
  sec : SecAt w P lb C M
  map : w.ownsMap Tryz.prog 3 rawElem wb 128 D
  mown : P wb
  wts : WtAt w P D M
  rot : RotAt w P rb M.n
  ne : wb ≠ rb
/-- the Disk behind block d is M; its blocks are of P -/
def DskAt (w : World) (P : Nat → Prop) (d : Nat) (M : DskM) : Prop := ∃ lb wb rb cap C D, DskP w P d lb wb rb cap C D M
theorem DskP.turned {w w' : World} {P Q : Nat → Prop} {d lb wb rb cap : Nat} {C : Array Value} {D : DataW Value} {M : DskM} (h : DskP w P d lb wb rb cap C D M) (ht : Turned Q w w') (hd : ∀ i, i < w.heap.size → P i → ¬ Q i) : DskP w' P d lb wb rb cap C D M :=
  ⟨h.ok, h.own, h.bk.turned ht (hd _ h.bk.lt h.own), h.room, h.big, h.sec.turned ht hd, map_turned h.map ht (hd _ h.map.lt h.mown), h.mown, h.wts.turned ht hd, h.rot.turned ht hd, h.ne⟩
theorem DskP.more {w : World} {P Q : Nat → Prop} {d lb wb rb cap : Nat} {C : Array Value} {D : DataW Value} {M : DskM} (h : DskP w P d lb wb rb cap C D M) (hq : ∀ i, i < w.heap.size → P i → Q i) : DskP w Q d lb wb rb cap C D M :=
  ⟨h.ok, hq _ h.bk.lt h.own, h.bk, h.room, h.big, h.sec.more hq, h.map, hq _ h.map.lt h.mown, h.wts.more hq, h.rot.more hq, h.ne⟩
theorem DskP.ext {w w' : World} {P : Nat → Prop} {d lb wb rb cap : Nat} {C : Array Value} {D : DataW Value} {M : DskM} (h : DskP w P d lb wb rb cap C D M) (hb : Below w.heap.size w w') : DskP w' P d lb wb rb cap C D M := h.turned (Q := fun _ => False) (Turned.of_below hb) (fun _ _ _ => id)
theorem DskAt.turned {w w' : World} {P Q : Nat → Prop} {d : Nat} {M : DskM} (h : DskAt w P d M) (ht : Turned Q w w') (hd : ∀ i, i < w.heap.size → P i → ¬ Q i) : DskAt w' P d M := by
  obtain ⟨lb, wb, rb, cap, C, D, h⟩ := h
  exact ⟨lb, wb, rb, cap, C, D, h.turned ht hd⟩
theorem DskAt.more {w : World} {P Q : Nat → Prop} {d : Nat} {M : DskM} (h : DskAt w P d M) (hq : ∀ i, i < w.heap.size → P i → Q i) : DskAt w Q d M := by
  obtain ⟨lb, wb, rb, cap, C, D, h⟩ := h
  exact ⟨lb, wb, rb, cap, C, D, h.more hq⟩
theorem DskAt.ext {w w' : World} {P : Nat → Prop} {d : Nat} {M : DskM} (h : DskAt w P d M) (hb : Below w.heap.size w w') : DskAt w' P d M := h.turned (Q := fun _ => False) (Turned.of_below hb) (fun _ _ _ => id)
theorem DskAt.lt {w : World} {P : Nat → Prop} {d : Nat} {M : DskM} (h : DskAt w P d M) : d < w.heap.size := by
  obtain ⟨lb, wb, rb, cap, C, D, h⟩ := h
  exact h.bk.lt
theorem DskAt.ok {w : World} {P : Nat → Prop} {d : Nat} {M : DskM} (h : DskAt w P d M) : M.Ok := by
  obtain ⟨lb, wb, rb, cap, C, D, h⟩ := h
  exact h.ok

/-! ### racks -/
/-- the parts of a rack: its block, the row of disks -/
structure RackP (w : World) (o : Nat → Option Nat) (r lb cap : Nat) (C : Array Value) (d : Nat → Nat) (M : RackM) : Prop where
  ok : M.Ok
  own : o r = some 0
  lown : o lb = some 0
  bk : Bk w r 112 #[.slice (some ⟨lb, 0, none⟩) M.n cap, .bool M.off, .int .i64 M.fuse]
  row : Bk w lb 113 C
  room : M.n ≤ cap
  big : cap ≤ 9223372036854775807
  at_ : ∀ i, i < M.n → C[i]? = some (.pointer (some ⟨d i, 0, none⟩)) ∧ DskAt w (fun b => o b = some (i + 1)) (d i) (M.d i)
  lim : ∀ b, o b ≠ none → b < w.heap.size
/-- the Rack behind block r is M; o says whose a block is -/
def RackAt (w : World) (o : Nat → Option Nat) (r : Nat) (M : RackM) : Prop := ∃ lb cap C d, RackP w o r lb cap C d M
theorem RackP.turned {w w' : World} {o : Nat → Option Nat} {Q : Nat → Prop} {r lb cap : Nat} {C : Array Value} {d : Nat → Nat} {M : RackM} (h : RackP w o r lb cap C d M) (ht : Turned Q w w') (hd : ∀ i, i < w.heap.size → o i ≠ none → ¬ Q i) : RackP w' o r lb cap C d M :=
  ⟨h.ok, h.own, h.lown, h.bk.turned ht (hd _ h.bk.lt (by rw [h.own]; simp)), h.row.turned ht (hd _ h.row.lt (by rw [h.lown]; simp)), h.room, h.big, fun i hi => ⟨(h.at_ i hi).1, (h.at_ i hi).2.turned ht (fun b hb ho => hd b hb (by
    have ho : o b = some (i + 1) := ho
    rw [ho]; simp))⟩, fun b hb => Nat.lt_of_lt_of_le (h.lim b hb) ht.size⟩
theorem RackAt.turned {w w' : World} {o : Nat → Option Nat} {Q : Nat → Prop} {r : Nat} {M : RackM} (h : RackAt w o r M) (ht : Turned Q w w') (hd : ∀ i, i < w.heap.size → o i ≠ none → ¬ Q i) : RackAt w' o r M := by
  obtain ⟨lb, cap, C, d, h⟩ := h
  exact ⟨lb, cap, C, d, h.turned ht hd⟩
theorem RackAt.ext {w w' : World} {o : Nat → Option Nat} {r : Nat} {M : RackM} (h : RackAt w o r M) (hb : Below w.heap.size w w') : RackAt w' o r M := h.turned (Q := fun _ => False) (Turned.of_below hb) (fun _ _ _ => id)
theorem RackM.set_ok {M : RackM} (h : M.Ok) {i : Nat} {D : DskM} (hD : D.Ok) (hn : D.n = (M.d i).n) (hi : i < M.n) : (M.set i D).Ok := by
  have hs : ∀ j, j < M.n → (if j = i then D else M.d j).n = (M.d 0).n := fun j hj => by
    split
    · rw [hn]; exact h.same i hi
    · exact h.same j hj
  refine ⟨h.pos, h.few, fun j hj => ?_, fun j hj => ?_, h.f0, h.f1⟩
  · show (if j = i then D else M.d j).Ok
    split
    · exact hD
    · exact h.d j hj
  · show (if j = i then D else M.d j).n = (if 0 = i then D else M.d 0).n
    rw [hs j hj]
    split
    · rename_i e
      rw [hn, ← e]
    · rfl
/-- whose a block is, behind what was done to disk i -/
def ownD (o : Nat → Option Nat) (i : Nat) (w w' : World) (b : Nat) : Option Nat := if b < w.heap.size then o b else if b < w'.heap.size then some (i + 1) else none
theorem RackP.set {w w' : World} {o : Nat → Option Nat} {r lb cap : Nat} {C : Array Value} {d : Nat → Nat} {M : RackM} (h : RackP w o r lb cap C d M) {i : Nat} (hi : i < M.n) {D : DskM} (ht : Turned (fun b => o b = some (i + 1)) w w') (hD : DskAt w' (Wide (fun b => o b = some (i + 1)) w) (d i) D) (hn : D.n = (M.d i).n) :
    RackP w' (ownD o i w w') r lb cap C d (M.set i D) := by
  have hlo : ∀ b, b < w.heap.size → ownD o i w w' b = o b := fun b hb => if_pos hb
  refine ⟨RackM.set_ok h.ok hD.ok hn hi, (hlo _ h.bk.lt).trans h.own, (hlo _ h.row.lt).trans h.lown, h.bk.turned ht (by rw [h.own]; simp), h.row.turned ht (by rw [h.lown]; simp), h.room, h.big, fun j hj => ⟨(h.at_ j hj).1, ?_⟩, fun b hb => ?_⟩
  · show DskAt w' (fun b => ownD o i w w' b = some (j + 1)) (d j) (if j = i then D else M.d j)
    by_cases e : j = i
    · subst e
      rw [if_pos rfl]
      refine hD.more fun b hb hw => ?_
      show ownD o j w w' b = some (j + 1)
      rcases hw with hw | hw
      · have hw : o b = some (j + 1) := hw
        rw [hlo b (h.lim b (by rw [hw]; simp)), hw]
      · unfold ownD
        rw [if_neg (by omega), if_pos hb]
    · rw [if_neg e]
      have h2 := (h.at_ j hj).2.turned ht (fun b _ hb hx => by
        have hb : o b = some (j + 1) := hb
        have hx : o b = some (i + 1) := hx
        rw [hb] at hx
        injection hx with hx
        omega)
      refine h2.more fun b _ hw => ?_
      have hw : o b = some (j + 1) := hw
      show ownD o i w w' b = some (j + 1)
      rw [hlo b (h.lim b (by rw [hw]; simp)), hw]
  · unfold ownD at hb
    split at hb
    · exact Nat.lt_of_lt_of_le (h.lim b hb) ht.size
    · split at hb
      · assumption
      · exact absurd rfl hb
/-- a Rack in a law's hands: it came since w0, as all that turned; the blocks of K are none of its own -/
def RK (w0 w : World) (r : Nat) (M : RackM) (K : Nat → Prop) : Prop := ∃ o, RackAt w o r M ∧ (∀ i, o i ≠ none → w0.heap.size ≤ i) ∧ (∀ i, K i → o i = none ∧ i < w.heap.size) ∧ Below w0.heap.size w0 w
theorem RK.below {w0 w : World} {r : Nat} {M : RackM} {K : Nat → Prop} (h : RK w0 w r M K) : Below w0.heap.size w0 w := by
  obtain ⟨_, _, _, _, h⟩ := h
  exact h
theorem RK.ok {w0 w : World} {r : Nat} {M : RackM} {K : Nat → Prop} (h : RK w0 w r M K) : M.Ok := by
  obtain ⟨_, ⟨_, _, _, _, h⟩, _⟩ := h
  exact h.ok
theorem RK.ext {w0 w w' : World} {r : Nat} {M : RackM} {K : Nat → Prop} (h : RK w0 w r M K) (hb : Below w.heap.size w w') : RK w0 w' r M (fun i => K i ∨ (w.heap.size ≤ i ∧ i < w'.heap.size)) := by
  obtain ⟨o, h1, h3, h4, h5⟩ := h
  refine ⟨o, h1.ext hb, h3, fun i hi => ?_, h5.trans (below_le h5.size hb)⟩
  rcases hi with hi | hi
  · exact ⟨(h4 i hi).1, Nat.lt_of_lt_of_le (h4 i hi).2 hb.size⟩
  · refine ⟨?_, hi.2⟩
    obtain ⟨_, _, _, _, h⟩ := h1
    cases e : o i with
    | none => rfl
    | some x =>
      have := h.lim i (by rw [e]; simp)
      omega
theorem RK.less {w0 w : World} {r : Nat} {M : RackM} {K K' : Nat → Prop} (h : RK w0 w r M K) (hk : ∀ i, K' i → K i) : RK w0 w r M K' := by
  obtain ⟨o, h1, h3, h4, h5⟩ := h
  exact ⟨o, h1, h3, fun i hi => h4 i (hk i hi), h5⟩
/-- kept blocks turned -/
theorem RK.turned {w0 w w' : World} {r : Nat} {M : RackM} {K Q : Nat → Prop} (h : RK w0 w r M K) (hT : Turned Q w w') (hQ : ∀ i, i < w.heap.size → Q i → K i ∧ w0.heap.size ≤ i) : RK w0 w' r M (fun i => K i ∨ (w.heap.size ≤ i ∧ i < w'.heap.size)) := by
  obtain ⟨o, h1, h3, h4, h5⟩ := h
  refine ⟨o, h1.turned hT (fun i hi ho hq => ho (h4 i (hQ i hi hq).1).1), h3, fun i hi => ?_, ⟨hT.os.trans h5.os, hT.tape.trans h5.tape, hT.output.trans h5.output, Nat.le_trans h5.size hT.size, fun i hi => (hT.block i (Nat.lt_of_lt_of_le hi h5.size) (fun hq => by have := (hQ i (Nat.lt_of_lt_of_le hi h5.size) hq).2; omega)).trans (h5.block i hi)⟩⟩
  rcases hi with hi | hi
  · exact ⟨(h4 i hi).1, Nat.lt_of_lt_of_le (h4 i hi).2 hT.size⟩
  · refine ⟨?_, hi.2⟩
    obtain ⟨_, _, _, _, h⟩ := h1
    cases e : o i with
    | none => rfl
    | some x =>
      have := h.lim i (by rw [e]; simp)
      omega
/-- what an operation on a rack leaves -/
def RkPost (w : World) (o : Nat → Option Nat) (r : Nat) (M' : RackM) (w' : World) : Prop := ∃ o', RackAt w' o' r M' ∧ (∀ b, b < w.heap.size → o' b = o b) ∧ Turned (fun b => o b ≠ none) w w'
theorem RackAt.lim {w : World} {o : Nat → Option Nat} {r : Nat} {M : RackM} (h : RackAt w o r M) {b : Nat} (hb : o b ≠ none) : b < w.heap.size := by
  obtain ⟨_, _, _, _, h⟩ := h
  exact h.lim b hb
theorem RkPost.same {w : World} {o : Nat → Option Nat} {r : Nat} {M : RackM} (h : RackAt w o r M) : RkPost w o r M w := ⟨o, h, fun _ _ => rfl, Turned.refl _ _⟩
theorem RkPost.then {w w1 w' : World} {o : Nat → Option Nat} {r : Nat} {M1 M' : RackM} (h : RkPost w o r M1 w1) (h2 : ∀ o1, RackAt w1 o1 r M1 → RkPost w1 o1 r M' w') : RkPost w o r M' w' := by
  obtain ⟨o1, a1, a2, a3⟩ := h
  obtain ⟨o2, b1, b2, b3⟩ := h2 o1 a1
  refine ⟨o2, b1, fun b hb => (b2 b (Nat.lt_of_lt_of_le hb a3.size)).trans (a2 b hb), a3.trans b3 fun b hb ho => ?_⟩
  rw [← a2 b hb]
  exact ho
theorem RkPost.ext {w w1 w' : World} {o : Nat → Option Nat} {r : Nat} {M' : RackM} (h : RkPost w o r M' w1) (hb : Below w1.heap.size w1 w') : RkPost w o r M' w' := by
  obtain ⟨o1, a1, a2, a3⟩ := h
  exact ⟨o1, a1.ext hb, a2, a3.then_below hb⟩
theorem RkPost.from_ {w w1 w' : World} {o : Nat → Option Nat} {r : Nat} {M' : RackM} (hb : Below w.heap.size w w1) (h : RkPost w1 o r M' w') : RkPost w o r M' w' := by
  obtain ⟨o1, a1, a2, a3⟩ := h
  exact ⟨o1, a1, fun b hb' => a2 b (Nat.lt_of_lt_of_le hb' hb.size), (Turned.of_below hb).trans a3 (fun _ _ h => h)⟩
theorem RK.post {w0 w w' : World} {r : Nat} {M M' : RackM} {K : Nat → Prop} (h : RK w0 w r M K) (hp : ∀ o, RackAt w o r M → RkPost w o r M' w') : RK w0 w' r M' K ∧ Turned (fun i => w0.heap.size ≤ i ∧ ¬ K i) w w' := by
  obtain ⟨o, h1, h3, h4, h5⟩ := h
  obtain ⟨o', a1, a2, a3⟩ := hp o h1
  refine ⟨⟨o', a1, fun i hi => ?_, fun i hi => ⟨(a2 i (h4 i hi).2).trans (h4 i hi).1, Nat.lt_of_lt_of_le (h4 i hi).2 a3.size⟩, a3.below h5 h5.size h3⟩, a3.more fun i _ ho => ⟨h3 i ho, fun hk => ho (h4 i hk).1⟩⟩
  by_cases hw : i < w.heap.size
  · rw [a2 i hw] at hi
    exact h3 i hi
  · have := h5.size
    omega
end Go.Proofs.YtkdlofgfkfhofaaGreatDoor
