/-
  The marks of consumer groups: Forget.
-/
import Derived.Test.YtjodiieeocaipaaGreatDoorGrpSet
import Derived.Test.YtjodiieeocaipaaGreatDoorOpen
import Derived.Lib.SlMapFilter
import Derived.Maps.Ext
import Derived.Laws.IdiomRangeMap
namespace Go.Proofs.YtjodiieeocaipaaGreatDoor
open Go.RowKit Go.Maps

set_option maxRecDepth 100000 in
theorem lits_str {m : Nat} {x : Value} {l : List Lit} (h : Tryz.prog.keyLits (m + 1) 9 [x] = some l) : ∃ s, x = .string s ∧ s.size ≤ maxLen ∧ l = [.string s.data.toList] := by
  have hu9 := Tryz.underlying9
  unfold Program.keyLits at h
  simp only [hu9] at h
  cases x <;> simp at h
  exact ⟨_, rfl, h.1, h.2.symm⟩
set_option maxRecDepth 100000 in
theorem lits_int {m : Nat} {x : Value} {l : List Lit} (h : Tryz.prog.keyLits (m + 1) 3 [x] = some l) : ∃ z, x = .int .i64 z ∧ (Lit.int .i64 z).wf = true ∧ l = [.int .i64 z] := by
  have hu3 := Tryz.underlying3
  unfold Program.keyLits at h
  simp only [hu3] at h
  cases x <;> simp at h
  obtain ⟨⟨rfl, hw⟩, rfl⟩ := h
  exact ⟨_, rfl, hw, rfl⟩
theorem types_two : 2 ≤ Tryz.prog.types.size := of_decide_eq_true (by kernel_rfl)
set_option maxRecDepth 100000 in
theorem lits_key {m : Nat} {x y z : Value} {L : List Lit} (h : Tryz.prog.keyLits (m + 1) 134 [x, y, z] = some L) :
    ∃ l1 l2 l3, Tryz.prog.keyLits m 9 [x] = some l1 ∧ Tryz.prog.keyLits m 9 [y] = some l2 ∧ Tryz.prog.keyLits m 3 [z] = some l3 ∧ L = l1 ++ (l2 ++ l3) := by
  have hu := Tryz.underlying134
  unfold Program.keyLits at h
  simp only [hu] at h
  simp [cells_key, cells_str, cells_int] at h
  cases h1 : Tryz.prog.keyLits m 9 [x] with
  | none => simp [h1] at h
  | some l1 =>
    cases h2 : Tryz.prog.keyLits m 9 [y] with
    | none => simp [h1, h2] at h
    | some l2 =>
      cases h3 : Tryz.prog.keyLits m 3 [z] with
      | none => simp [h1, h2, h3] at h
      | some l3 =>
        simp [h1, h2, h3] at h
        exact ⟨l1, l2, l3, rfl, rfl, rfl, h.symm⟩
set_option maxRecDepth 100000 in
theorem key_inv {v : Value} {kl : Lit} (h : keyOf Tryz.prog 134 v = some kl) :
    ∃ a t p, v = kval a t p ∧ kl = mkey a t p ∧ a.size ≤ maxLen ∧ t.size ≤ maxLen ∧ (Lit.int .i64 p).wf = true := by
  obtain ⟨xs, L, rfl, hL, rfl⟩ := keyOf_top (P := Tryz.prog) (k := 134) (by kernel_rfl) h
  obtain ⟨m, hm⟩ : ∃ m, Tryz.prog.types.size + 1 = m + 3 := ⟨Tryz.prog.types.size - 2, by have := types_two; omega⟩
  rw [hm] at hL
  have hlen : xs.toList.length = 3 := by
    have hu := Tryz.underlying134
    unfold Program.keyLits at hL
    simp only [hu, cells_key] at hL
    split at hL
    · rename_i hh; exact hh.1
    · cases hL
  obtain ⟨x, y, z, hx⟩ : ∃ x y z, xs.toList = [x, y, z] := by
    match xs.toList, hlen with
    | [x, y, z], _ => exact ⟨x, y, z, rfl⟩
  rw [hx] at hL
  obtain ⟨l1, l2, l3, h1, h2, h3, rfl⟩ := lits_key hL
  obtain ⟨a, rfl, ha, rfl⟩ := lits_str h1
  obtain ⟨t, rfl, ht, rfl⟩ := lits_str h2
  obtain ⟨p, rfl, hp, rfl⟩ := lits_int h3
  have : xs = #[.string a, .string t, .int .i64 p] := by rw [← Array.toArray_toList (xs := xs), hx]
  subst this
  exact ⟨a, t, p, rfl, rfl, ha, ht, hp⟩

open Classical in
/-- is a key one of the topic's -/
noncomputable def ofTopic (t : ByteArray) (kl : Lit) (_ : DataW Unit) : Bool := decide (∃ a p, a.size ≤ maxLen ∧ (Lit.int .i64 p).wf = true ∧ kl = mkey a t p)
theorem ofTopic_key {a t u : ByteArray} {p : Int} (ha : a.size ≤ maxLen) (ht : t.size ≤ maxLen) (hu : u.size ≤ maxLen) (hp : (Lit.int .i64 p).wf = true) (d : DataW Unit) : ofTopic u (mkey a t p) d = decide (t = u) := by
  unfold ofTopic
  refine decide_eq_decide.2 ⟨?_, ?_⟩
  · rintro ⟨a', p', ha', hp', e⟩
    exact (mkey_inj ha ht hp ha' hu hp' e).2.1
  · rintro rfl
    exact ⟨a, p, ha, hp, rfl⟩

theorem str_eq (t u : ByteArray) : (t.toList == u.toList) = decide (t = u) := by
  rw [Lib.toList_data, Lib.toList_data]
  by_cases h : t = u
  · subst h; simp
  · have : t.data.toList ≠ u.data.toList := fun e => h (by rw [← Lib.mk_data t, ← Lib.mk_data u, e])
    simp [h]
    exact fun e => this (by rw [e])
set_option maxRecDepth 100000 in
theorem forget1_any (a t u : ByteArray) (p c : Int) (tp : Addr) (w : World) (hc : w.cell? tp = some (.string u)) :
    Calls Tryz.prog 117 #[.agg #[.string a, .string t, .int .i64 p], .int .i64 c, .pointer (some tp)] w fun e w' => e = .returned (.bool (decide (t = u))) ∧ Below w.heap.size w w' := by
  have hb := below_new w (.cells #[.string a, .string t, .int .i64 p] 134)
  have hc2 : (w.alloc (.cells #[.string a, .string t, .int .i64 p] 134)).cell? tp = some (.string u) := (hb.cell (cell_lt hc)).trans hc
  go_enter Tryz.func117, Tryz.ntmps117
  go_wp2
  go_ret
  exact ⟨ret_bool (str_eq t u), hb⟩

theorem mkK_inv (key : Value) (kl : Lit) (h : keyOf Tryz.prog 134 key = some kl) : ∃ x : ByteArray × ByteArray × Int, key = (fun x : ByteArray × ByteArray × Int => Value.agg #[.string x.1, .string x.2.1, .int .i64 x.2.2]) x := by
  obtain ⟨a, t, p, rfl, _⟩ := key_inv h
  exact ⟨(a, t, p), rfl⟩
theorem mkV_inv (v : Value) (y : DataW Unit × List MemPlace) (h : plainElem Tryz.prog 3 v = some y) : ∃ c : Int, v = Value.int .i64 c := by
  obtain ⟨c, rfl, _⟩ := plainElem_int_inv Tryz.underlying3 h
  exact ⟨c, rfl⟩
def ldK (v : Value) : Sem Value := Instr.loadAt 134 v
theorem ldK_eq (v : Value) : Instr.loadAt 134 v = ldK v := rfl
theorem size_key : (Tryz.prog.info? 134).map (·.size) = some 3 := by kernel_rfl
theorem ldK_bk {w : World} {g : Nat} {x y z : Value} (h : Bk w g 134 #[x, y, z]) : (ldK (.pointer (some ⟨g, 0, none⟩))).run Tryz.prog w = .ok (.agg #[x, y, z]) w := by
  unfold ldK
  simp only [Instr.loadAt, Instr.sureAddr, Sem.run_bind, Sem.run_pure, Result.andThen_ok, run_loadVar_row w g _ _ #[x, y, z] (0, 0) _ h Tryz.underlying134 rfl size_key]
attribute [local go_sem ↓] ldK_eq
set_option maxHeartbeats 4000000 in
set_option maxRecDepth 100000 in
theorem dele_any (u : ByteArray) (tp : Addr) (b n : Nat) (D : DataW Unit) (w : World) (hu : u.size ≤ maxLen) (hc : w.cell? tp = some (.string u)) (htb : tp.block ≠ b)
    (hown : w.ownsMap Tryz.prog 134 (plainElem Tryz.prog 3) b n D) :
    Calls Tryz.prog 116 #[.map (some b), .func (.func 117) #[] #[.pointer (some tp)]] w
      fun e w' => e = .returned (.tuple #[]) ∧ w'.ownsMap Tryz.prog 134 (plainElem Tryz.prog 3) b n (Lib.deleteFuncD (ofTopic u) D) ∧ w.grownBy w' (some b) := by
  obtain ⟨es0, rfl, hap, hkeys⟩ := hown.entries law_key
  have HC := Lib.hid hc
  clear hc
  go_enter Tryz.func116, Tryz.ntmps116
  go_wp2_with (first | (at_range; refine wpList_range_own _ rfl _ 96 rfl 134 3 law_key Tryz.underlying96 (plainElem Tryz.prog 3) b n _ rfl hown ?_; intro w0 hrg0 hg0 hs0) | go_in)
  go_frame
  go_loopw [8] (fun _ wr => ∃ (left : Lit → Bool) (cnt : Nat), wr.ranges Tryz.prog 134 (plainElem Tryz.prog 3) b w.heap.size n (Fk (ofTopic u) es0 left) left cnt ∧ w.grownBy wr (some b))
    (fun _ wr => wr.rangeLeft b w.heap.size)
  case atStart => exact ⟨_, _, by rw [Fk_start hkeys]; exact hrg0, hg0.but _⟩
  case round =>
    obtain ⟨left, cnt, hrg, hgw⟩ := hrel
    go_wp2_with (first | (at_next; refine wpList_next_ranges _ rfl _ rfl 134 law_key (plainElem Tryz.prog 3) (fun x : ByteArray × ByteArray × Int => Value.agg #[.string x.1, .string x.2.1, .int .i64 x.2.2]) (Value.int .i64) mkK_inv mkV_inv b w.heap.size n _ _ _ rfl hrg ?_ ?_) | go_in)
    · intro _ hl0
      go_wp2
      go_end0
      exact ⟨rfl, by rw [← Fk_end hl0]; exact hrg.owns, hgw⟩
    · intro a t p c kl yd yp w1 cnt1 hkey hlx hv hat hrg1 hlt hg1 hs1 hen
      have hkey' : keyOf Tryz.prog 134 (.agg #[.string a, .string t, .int .i64 p]) = some kl := hkey
      have hen' : (Instr.entry (.pointer (some ⟨w.heap.size, 0, none⟩))).run Tryz.prog w1 = .ok (.tuple #[.agg #[.string a, .string t, .int .i64 p], .int .i64 c]) w1 := hen
      obtain ⟨a', t', p', e1, rfl, ha, ht, hp⟩ := key_inv hkey'
      obtain ⟨rfl, rfl, rfl⟩ : a = a' ∧ t = t' ∧ p = p' := by simpa [kval] using e1
      have hpd := ofTopic_key ha ht hu hp yd
      have hgw1 := hgw.andThen hg1 (fun j hj => by cases hj; exact Or.inl (Nat.le_refl _))
      have hctp := hgw1.cell HC.out (fun e => htb (Option.some.inj e))
      have hb2 := below_new w1 (.cells #[.string a, .string t, .int .i64 p] 134)
      have hF := Lib.hid (forget1_any a t u p c tp _ ((hb2.cell (cell_lt hctp)).trans hctp))
      have hbk := Bk.made w1 134 #[.string a, .string t, .int .i64 p]
      have hld := ldK_bk hbk
      have hrg2 := hrg1.alloc (.cells #[.string a, .string t, .int .i64 p] 134)
      have hgw2 : w.grownBy (w1.alloc (.cells #[.string a, .string t, .int .i64 p] 134)) (some b) := hgw1.trans ((grown_of_below hb2).but _)
      clear hkey hen e1 hctp hs1 hrg1 hgw1 hb2
      cases hd : decide (t = u)
      · rw [hd] at hpd hF
        clear hd
        go_wp2_with (first | (go_at_call 117; refine hF.out.mono ?_; rintro e w2 ⟨rfl, hg2⟩) | fail)
        have hrg3 := hrg2.kept (grown_of_below hg2) (by simp) (by simp)
        have hgw3 := hgw2.trans ((grown_of_below hg2).but (some b))
        clear hF hbk hld
        go_roundw
        case rel => exact ⟨_, cnt1, by rw [← Fk_stays hap (law_key.key hkey') hlx hpd hat]; exact hrg3, hgw3⟩
        case measure => rw [hrg3.left_eq, hrg.left_eq]; exact hlt
      · rw [hd] at hpd hF
        clear hd
        go_wp2_with (first | (go_at_call 117; refine hF.out.mono ?_; rintro e w2 ⟨rfl, hg2⟩; have hld2 := ldK_bk (hbk.ext hg2); have hrg3 := hrg2.kept (grown_of_below hg2) (by simp) (by simp); have hgw3 := hgw2.trans ((grown_of_below hg2).but (some b)); clear hF hld) | (at_delete; refine wpList_delete_ranges _ rfl _ _ 96 134 rfl 3 law_key Tryz.underlying96 (plainElem Tryz.prog 3) b w.heap.size n _ _ _ rfl hrg3 _ _ rfl hkey' ?_; intro w3 cnt3 hrg4 hle hturn; go_frame) | go_in)
        rw [strike_twice] at hrg4
        go_roundw
        case rel => exact ⟨_, cnt3, by rw [← Fk_struck hap (law_key.key hkey') hlx hpd hat]; exact hrg4, hgw3.trans hturn.grown⟩
        case measure => rw [hrg4.left_eq, hrg.left_eq]; omega
end Go.Proofs.YtjodiieeocaipaaGreatDoor
