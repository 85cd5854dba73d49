import Derived.Test.YtkdlofgfkfhofaaGreatDoorP38
namespace Go.Proofs.YtkdlofgfkfhofaaGreatDoor
open Go.RowKit Go.Maps

theorem step_append_genO {P : Program} {ops : Array Oper} {o : Oper} {a : Act} {w : World} {K : Act → World → Prop} {Q : Exit → Act → World → Prop} {E : Prop} (hgd : o.guard = none) (s x : Operand) (t : TypeId)
    (ho : o.op = .call { callee := .builtin .append, args := #[s, x], argTypes := #[t, t] })
    (e : TypeId) (i : TypeInfo) (z : Value) (size bytes : Nat) (ht : P.underlying t = some (.slice e)) (hi : P.info? e = some i) (hz : i.zero = some z)
    (hsize : i.size = size) (hby : i.bytes = bytes) (hzs : z.cells.size = size) (hsz : 0 < size) (B : Nat)
    (v : Value) (n : Nat) (xs : List Value) (hs : a.eval s = v) (hown : w.ownsRow B e size v n xs)
    (ad : Addr) (m c : Nat) (news : List Value) (hx : a.eval x = .slice (some ad) m c) (hl : news.length = m * size) (hnews : ∀ j u, news[j]? = some u → w.cell? (ad.add j) = some u) (h1 : ∀ u ∈ news, u.oneCell' = true)
    (h63 : n + m ≤ maxLen) (hbytes : (n + m) * bytes ≤ 140737488355328) (hB : B ≤ w.heap.size) (N : Nat) (hN : N = n + m)
    (h : ∀ A' c' w', Hid (w'.ownsRow B e size (.slice A' N c') N (xs ++ news)) → Hid (w.grownBy w' v.ownBlock) → Hid ((Value.slice A' N c').ownBlock = v.ownBlock ∨ (Value.slice A' N c').ownBlock = some w.heap.size) →
      K (a.put o.dst (.slice A' N c')) w') :
    if Region.wanted o (yielded ops a.tmps) = true then Oper.wp P o a w K Q else E := by
  have hw : Region.wanted o (yielded ops a.tmps) = true := by simp [Region.wanted, hgd]
  rw [if_pos hw]
  subst hN
  obtain ⟨v', w', hrun, h2, h3, _, h5⟩ := run_append_own_at (P := P) w B t o.type e i z size bytes ht hi hz hsize hby hzs hsz v n xs hown ad m c news hl hnews h1 h63 hbytes hB
  obtain ⟨A', c', rfl⟩ : ∃ A' c', v' = .slice A' (n + m) c' := by
    rcases h2.2 with ⟨rfl, h0⟩ | ⟨g, cap, cur, rfl, _⟩
    · exact ⟨none, 0, by rw [h0]⟩
    · exact ⟨_, _, rfl⟩
  unfold Oper.wp execOp
  simp only [ho, resolve, invoke, builtin, Sem.run_bind, Sem.run_pure, Result.andThen_ok, List.map_toArray, List.map_cons, List.map_nil, hs, hx, hrun]
  exact h A' c' w' h2 h3 h5
abbrev wtL (tk : Int) (a : Ask) (A : Option Addr) (m cp : Nat) : List Value := [.int .i64 tk, .int .i64 a.corr, .int .i64 a.kind, .string a.topic, .string a.group, .int .i64 a.part, .int .i64 a.parts, .int .i64 a.first, .int .i64 a.off, .int .i64 a.most, .int .i64 a.time, .int .i64 a.bat.time, .int .i64 a.bat.prod, .int .i64 a.bat.seq, .slice A m cp]
theorem info_wt : (Tryz.prog.info? 205).map (fun i => (i.zero, i.size, i.bytes)) = some (some (.agg #[.int .i64 0, .int .i64 0, .int .i64 0, .string ⟨#[]⟩, .string ⟨#[]⟩, .int .i64 0, .int .i64 0, .int .i64 0, .int .i64 0, .int .i64 0, .int .i64 0, .int .i64 0, .int .i64 0, .int .i64 0, .slice none 0 0]), 15, 152) := by kernel_rfl
attribute [local go_sem ↓] ldRp_eq stRp_eq ldA_eq
set_option maxRecDepth 100000 in
set_option maxHeartbeats 4000000 in
theorem bServe_wr {w : World} {o : Nat → Option Nat} {r n S : Nat} {W : Nat → Nat → List UInt8} (hSt : StoAt w o r n S W) {b t g s tb gr : Nat} {me : Value} {last : Int} {c : CfgM} (hc : c.At n S) {Aw : Option Addr} {q cw : Nat} (hB : BrkAt w b r t g s tb gr me (.slice Aw q cw) last c) (hL : ErrLaid w) (hob : o b = none) (hbt : b < t ∧ b < g ∧ b < s ∧ b < tb) (hlt : t < w.heap.size ∧ g < w.heap.size ∧ s < w.heap.size ∧ tb < w.heap.size) (hl0 : 0 ≤ last) (hl1 : last ≤ 1000000)
    {Bw : Nat} {xs : List Value} (hws : w.ownsRow Bw 205 15 (.slice Aw q cw) q xs) (hBw : Bw ≤ w.heap.size) (hq : q < 16) (hwb : ∀ j, (Value.slice Aw q cw).ownBlock = some j → j ≠ b ∧ j ≠ t ∧ j ≠ g ∧ j ≠ s ∧ j ≠ tb)
    (a : Ask) (A : Option Addr) (m cp : Nat) (hr : RdT w A m cp a.bat.vals) (hAb : ∀ ad, A = some ad → ad.block ≠ b) (ha : rightA a = true) (hw : writK a.kind = true) :
    Calls Tryz.prog 64 #[.pointer (some ⟨b, 0, none⟩), .agg (askC a.corr a.kind a.topic a.group a.part a.parts a.first a.off a.most a.time a.bat.time a.bat.prod a.bat.seq A m cp)] w fun e w' => e = .returned (.tuple #[.int .i64 (last + 1), .agg (rpC 0 0 0 0), .bool false]) ∧ ∃ A' c', BrkAt w' b r t g s tb gr me (.slice A' (q + 1) c') (last + 1) c ∧ w'.ownsRow Bw 205 15 (.slice A' (q + 1) c') (q + 1) (xs ++ wtL (last + 1) a A m cp) ∧ (∀ j, (Value.slice A' (q + 1) c').ownBlock = some j → (Value.slice Aw q cw).ownBlock = some j ∨ w.heap.size ≤ j) ∧ Turned (fun j => j = b ∨ (Value.slice Aw q cw).ownBlock = some j) w w' := by
  obtain ⟨ii, hi0, hz0, hs0, hy0⟩ := info_parts info_wt
  have HI := Lib.hid hi0
  have HZ := Lib.hid hz0
  have HSz := Lib.hid hs0
  have HY0 := Lib.hid hy0
  clear hi0 hz0 hs0 hy0
  have hl63 : wrap64 (last + 1) = last + 1 := by unfold wrap64; omega
  have hb1 := below_new w (.cells (askC a.corr a.kind a.topic a.group a.part a.parts a.first a.off a.most a.time a.bat.time a.bat.prod a.bat.seq A m cp) 32)
  have hb2 := hb1.trans (below_le hb1.size (below_new (w.alloc (.cells (askC a.corr a.kind a.topic a.group a.part a.parts a.first a.off a.most a.time a.bat.time a.bat.prod a.bat.seq A m cp) 32)) (.cells #[.int .i64 0, .int .i64 0, .int .i64 0, .int .i64 0, .slice none 0 0, .slice none 0 0] 43)))
  have hB2 := hB.ext hb2
  have c6 : ((w.alloc (.cells (askC a.corr a.kind a.topic a.group a.part a.parts a.first a.off a.most a.time a.bat.time a.bat.prod a.bat.seq A m cp) 32)).alloc (.cells #[.int .i64 0, .int .i64 0, .int .i64 0, .int .i64 0, .slice none 0 0, .slice none 0 0] 43)).cell? ⟨b, 6, none⟩ = some (.int .i64 last) := hB2.bk.cell 6
  have z6 : ((w.alloc (.cells (askC a.corr a.kind a.topic a.group a.part a.parts a.first a.off a.most a.time a.bat.time a.bat.prod a.bat.seq A m cp) 32)).alloc (.cells #[.int .i64 0, .int .i64 0, .int .i64 0, .int .i64 0, .slice none 0 0, .slice none 0 0] 43)).frozen? ⟨b, 6, none⟩ = false := hB2.bk.thaw 6
  have hka := (Bk.made w 32 (askC a.corr a.kind a.topic a.group a.part a.parts a.first a.off a.most a.time a.bat.time a.bat.prod a.bat.seq A m cp)).ext (below_new _ (.cells #[.int .i64 0, .int .i64 0, .int .i64 0, .int .i64 0, .slice none 0 0, .slice none 0 0] 43))
  have hkr := Bk.made_at (w.alloc (.cells (askC a.corr a.kind a.topic a.group a.part a.parts a.first a.off a.most a.time a.bat.time a.bat.prod a.bat.seq A m cp) 32)) (w.heap.size + 1) 43 #[.int .i64 0, .int .i64 0, .int .i64 0, .int .i64 0, .slice none 0 0, .slice none 0 0] (by simp)
  have hne : w.heap.size ≠ b ∧ w.heap.size + 1 ≠ b := by have := hB.bk.lt; omega
  have HW2 : Hid (∀ X, X = (w.alloc (.cells (askC a.corr a.kind a.topic a.group a.part a.parts a.first a.off a.most a.time a.bat.time a.bat.prod a.bat.seq A m cp) 32)).alloc (.cells #[.int .i64 0, .int .i64 0, .int .i64 0, .int .i64 0, .slice none 0 0, .slice none 0 0] 43) → ∀ Y, Y = X.setCell ⟨b, 6, none⟩ (.int .i64 (last + 1)) → BrkAt Y b r t g s tb gr me (.slice Aw q cw) (last + 1) c ∧ Turned (fun i => i = b) w Y ∧ Bk Y w.heap.size 32 (askC a.corr a.kind a.topic a.group a.part a.parts a.first a.off a.most a.time a.bat.time a.bat.prod a.bat.seq A m cp) ∧ Bk Y (w.heap.size + 1) 43 #[.int .i64 0, .int .i64 0, .int .i64 0, .int .i64 0, .slice none 0 0, .slice none 0 0] ∧ RdT Y A m cp a.bat.vals) := by
    rintro X rfl Y rfl
    have hx := (⟨hB2.bk, (Turned.of_below hb2)⟩ : BrW w _ b _).put 6 (.int .i64 (last + 1))
    have hy := (⟨hB2.bk, Turned.refl _ _⟩ : BrW _ _ b _).put 6 (.int .i64 (last + 1))
    exact ⟨⟨hx.bk, hB2.tp.turned hy.tu (by omega), hB2.vo.turned hy.tu (by omega), hB2.st.turned hy.tu (by omega) (by omega)⟩, hx.tu, hka.turned hy.tu hne.1, hkr.turned hy.tu hne.2, RdT.kept (hr.ext hb2) (grown_set _ ⟨b, 6, none⟩ _) (fun ad e e2 => hAb ad e (Option.some.inj e2).symm)⟩
  have HA := Lib.hid ha
  have HWk := Lib.hid hw
  have hY := HW2.out _ rfl _ rfl
  have hlda := ldA_bk hY.2.2.1
  have HSt : Hid (∀ v, Turned (fun i => i = b) w v → StoAt v o r n S W) := fun v hv => hSt.turned hv (fun _ _ hi e => hi (e ▸ hob))
  have HWs : Hid (∀ v, Turned (fun i => i = b) w v → v.ownsRow Bw 205 15 (.slice Aw q cw) q xs) := fun v hv => own_turned hws hv (fun i hi e => (hwb i hi).1 e)
  have HWb := Lib.hid hwb
  have HBw := Lib.hid hBw
  have HCf := Lib.hid hc
  have HBl := Lib.hid hB.bk.lt
  have hG : 0 ≠ b := fun e => by
    have h1 : w.cell? ⟨b, 0, none⟩ = some (.pointer (some ⟨r, 0, none⟩)) := hB.bk.cell 0
    have key : ∀ (G : Nat) (u : TypeId) (x : Value), G = b → w.cell? ⟨G, 0, none⟩ = some (.iface u x) → False := by
      rintro G u x rfl h2
      rw [h1] at h2
      cases h2
    exact key _ _ _ e hL
  have HEo : Hid (∀ Y, Turned (fun i => i = b) w Y → ErrLaid Y) := fun Y hT => (turned_cell hT (cell_lt hL) (fun e => hG e)).trans hL
  clear hws hwb hBw hc hG hb1 hb2 hB2 hka hkr hne hL hB hr hAb HW2 ha hw hSt
  go_enter Tryz.func64, Tryz.ntmps64
  go_wp2_with fail
  generalize ((w.alloc (.cells (askC a.corr a.kind a.topic a.group a.part a.parts a.first a.off a.most a.time a.bat.time a.bat.prod a.bat.seq A m cp) 32)).alloc (.cells #[.int .i64 0, .int .i64 0, .int .i64 0, .int .i64 0, .slice none 0 0, .slice none 0 0] 43)).setCell ⟨b, 6, none⟩ (.int .i64 (last + 1)) = w2 at hY hlda ⊢
  have HY := Lib.hid hY
  have HR := Lib.hid (aRight_any a A m cp w2 hY.2.2.2.2 true HA.out)
  clear hY hlda
  with_reducible refine HR.out.mono ?_
  rintro er w3 ⟨rfl, hb3⟩
  have HB3 := Lib.hid (HY.out.1.ext hb3)
  have HT3 := Lib.hid (HY.out.2.1.then_below hb3)
  have HA3 := Lib.hid (HY.out.2.2.1.ext hb3)
  have HP3 := Lib.hid (HY.out.2.2.2.1.ext hb3)
  have c1 : w3.cell? ⟨b, 1, none⟩ = some (.pointer (some ⟨t, 0, none⟩)) := HB3.out.bk.cell 1
  have ck : w3.cell? ⟨w.heap.size, 1, none⟩ = some (.int .i64 a.kind) := HA3.out.cell 1
  have HW := Lib.hid (fun v => writes_any a.kind v)
  rw [HWk.out] at HW
  clear hb3 HY HR
  have HMo := Lib.hid (bMode_any (HSt.out _ HT3.out) HCf.out HB3.out)
  go_wp2_with (first | (go_at_call 55; go_loud (with_reducible refine (HW.out _).mono ?_); go_loud (rintro er w4 ⟨rfl, rfl⟩)) | fail)
  clear c1 ck
  with_reducible refine HMo.out.mono ?_
  rintro er w5 ⟨rfl, hb5⟩
  have HB5 := Lib.hid (HB3.out.ext hb5)
  have HT5 := Lib.hid (HT3.out.then_below hb5)
  have HA5 := Lib.hid (HA3.out.ext hb5)
  have HP5 := Lib.hid (HP3.out.ext hb5)
  have d5 : w5.cell? ⟨b, 5, none⟩ = some (.slice Aw q cw) := HB5.out.bk.cell 5
  have hq16 : ¬ (q : Int) ≥ 16 := by omega
  have hszl : w.heap.size ≤ w5.heap.size := HT5.out.size
  clear hb5 HB3 HT3 HA3 HP3 HMo HW
  go_wp2_with fail
  clear d5
  have hbl : b < w.heap.size := HBl.out
  generalize hGp : w.heap.size + 1 = gp at HP5 ⊢
  generalize hGc : w.heap.size = gc at HA5 ⊢
  have hne : gc ≠ gp := by omega
  have hne2 : b ≠ gp := by omega
  have HLe : Hid (w.heap.size ≤ gp) := by show _ ≤ _; omega
  have HLc : Hid (w.heap.size ≤ gc) := by show _ ≤ _; omega
  clear hGp hGc
  obtain ⟨hne3, hne4⟩ : (∀ j, (Value.slice Aw q cw).ownBlock = some j → j < gc) ∧ (∀ j, (Value.slice Aw q cw).ownBlock = some j → j < gp) := by
    have h1 := fun j hj => (World.ownsRow.lt (HWs.out _ (Turned.refl _ _)) j hj).2
    have h2 := HLc.out
    have h3 := HLe.out
    exact ⟨fun j hj => by have := h1 j hj; omega, fun j hj => by have := h1 j hj; omega⟩
  have hob1 : (Value.slice Aw q cw).ownBlock ≠ some b := fun e => (HWb.out b e).1 rfl
  have hob2 : (Value.slice Aw q cw).ownBlock ≠ some gc := fun e => by have := hne3 gc e; omega
  have hob3 : (Value.slice Aw q cw).ownBlock ≠ some gp := fun e => by have := hne4 gp e; omega
  have HWs5 := Lib.hid (HWs.out _ HT5.out)
  have q1 : Below w5.heap.size w5 (w5.alloc (.cells (wtL (last + 1) a A m cp).toArray 205)).drew := below_drew1 (below_new w5 (.cells (wtL (last + 1) a A m cp).toArray 205))
  have hBw5 : Bw ≤ w5.heap.size := Nat.le_trans HBw.out HT5.out.size
  have d5 : w5.cell? ⟨b, 5, none⟩ = some (.slice Aw q cw) := HB5.out.bk.cell 5
  have d6 : w5.cell? ⟨b, 6, none⟩ = some (.int .i64 (last + 1)) := HB5.out.bk.cell 6
  have d5n : (w5.alloc (.cells #[.int .i64 (last + 1), .int .i64 a.corr, .int .i64 a.kind, .string a.topic, .string a.group, .int .i64 a.part, .int .i64 a.parts, .int .i64 a.first, .int .i64 a.off, .int .i64 a.most, .int .i64 a.time, .int .i64 a.bat.time, .int .i64 a.bat.prod, .int .i64 a.bat.seq, .slice A m cp] 205)).cell? ⟨b, 5, none⟩ = some (.slice Aw q cw) := (HB5.out.bk.alloc _).cell 5
  have hl5 := ldA_bk HA5.out
  have hl5d := ldA_bk (show Bk w5.drew gc 32 (askC a.corr a.kind a.topic a.group a.part a.parts a.first a.off a.most a.time a.bat.time a.bat.prod a.bat.seq A m cp) from HA5.out)
  go_region_law (go_loud (refine step_append_genO rfl (.tmp 77) (.tmp 84) 103 rfl 205 ii _ 15 152 Tryz.underlying103 HI.out HZ.out HSz.out HY0.out rfl (by omega) Bw _ q xs rfl (World.ownsRow.drew (World.ownsRow.alloc (show w5.ownsRow Bw 205 15 (.slice Aw q cw) q xs from HWs5.out) _)) ⟨w5.heap.size, 0, none⟩ 1 1 (wtL (last + 1) a A m cp) rfl rfl (cells_newm w5 _ (0, 0) _ _ rfl _ rfl) (one_all rfl) (by unfold maxLen; omega) (by omega) (by simp; omega) (q + 1) rfl ?_); go_loud (intro A6 c6 w6 ho6 hg6 hob6); go_loud (have hk6 := Bk.keptO HB5.out.bk (((grown_of_below q1).but _).trans hg6.out) hob1); go_loud (have e5 := hk6.cell 5); go_loud (have z5 := hk6.thaw 5))
  all_goals
    have T56 : Turned (fun j => (Value.slice Aw q cw).ownBlock = some j) w5 w6 := Turned.of_grown (((grown_of_below q1).but _).trans hg6.out) (fun k e => e)
    have hb6 := HWb.out
    have hB6 : BrkAt w6 b r t g s tb gr me (.slice Aw q cw) (last + 1) c := ⟨HB5.out.bk.turned T56 hob1, HB5.out.tp.turned T56 (fun e => (hb6 _ e).2.1 rfl), HB5.out.vo.turned T56 (fun e => (hb6 _ e).2.2.1 rfl), HB5.out.st.turned T56 (fun e => (hb6 _ e).2.2.2.1 rfl) (fun e => (hb6 _ e).2.2.2.2 rfl)⟩
    have T67 : Turned (fun j => j = b) w6 (w6.setCell ⟨b, 5, none⟩ (.slice A6 (q + 1) c6)) := Turned.of_grown (grown_set w6 ⟨b, 5, none⟩ (.slice A6 (q + 1) c6)) (fun k e => (Option.some.inj e).symm)
    have hlw := hlt
    have hB7 : BrkAt (w6.setCell ⟨b, 5, none⟩ (.slice A6 (q + 1) c6)) b r t g s tb gr me (.slice A6 (q + 1) c6) (last + 1) c := ⟨hB6.bk.put 5 _, hB6.tp.turned T67 (by omega), hB6.vo.turned T67 (by omega), hB6.st.turned T67 (by omega) (by omega)⟩
    have hP7 := (HP5.out.turned T56 hob3).turned T67 (fun e => hne2 e.symm)
    have hO7 := own_turned ho6.out T67 (fun j hj e => own_notB ho6.out hj hB6.bk e (by decide))
    have hT7 : Turned (fun j => j = b ∨ (Value.slice Aw q cw).ownBlock = some j) w (w6.setCell ⟨b, 5, none⟩ (.slice A6 (q + 1) c6)) := ((HT5.out.more (Q := fun j => j = b ∨ (Value.slice Aw q cw).ownBlock = some j) (fun _ _ h => .inl h)).trans T56 (fun _ _ h => .inr h)).trans T67 (fun _ _ h => .inl h)
    have hpl : ∀ j, (Value.slice A6 (q + 1) c6).ownBlock = some j → (Value.slice Aw q cw).ownBlock = some j ∨ w.heap.size ≤ j := by
      intro j hj
      rcases hob6.out with h | h
      · exact .inl (h ▸ hj)
      · rw [h] at hj
        injection hj with hj
        subst hj
        refine .inr (Nat.le_trans hszl ?_)
        first | exact q1.size | simp
    have HB7 := Lib.hid hB7
    have HP7 := Lib.hid hP7
    have HO7 := Lib.hid hO7
    have HT7 := Lib.hid hT7
    clear hB6 hB7 hP7 hO7 hT7 T56 T67 ho6 hg6 hob6 HWs5 HWs HB5 HP5 HA5 HT5 q1 d5 d6 hl5 hl5d hk6 e5 z5 d5n
    generalize w6.setCell ⟨b, 5, none⟩ (.slice A6 (q + 1) c6) = w7 at HB7 HP7 HO7 HT7 ⊢
    have c6' : w7.cell? ⟨b, 6, none⟩ = some (.int .i64 (last + 1)) := HB7.out.bk.cell 6
    have hst8 := stRp_bk rfl HP7.out 0 0 0 0
    have T78 : Turned (fun j => j = gp) w7 (w7.setRow gp (rpC 0 0 0 0)) := Turned.of_grown (grown_row w7 gp _) (fun _ e => (Option.some.inj e).symm)
    have hX8 := HP7.out.row (rpC 0 0 0 0)
    have hle := HLe.out
    have hB8 : BrkAt (w7.setRow gp (rpC 0 0 0 0)) b r t g s tb gr me (.slice A6 (q + 1) c6) (last + 1) c := ⟨HB7.out.bk.turned T78 hne2, HB7.out.tp.turned T78 (by omega), HB7.out.vo.turned T78 (by omega), HB7.out.st.turned T78 (by omega) (by omega)⟩
    have hO8 := own_turned HO7.out T78 (fun j hj e => own_notB HO7.out hj HP7.out e (by decide))
    have hT8 : Turned (fun j => j = b ∨ (Value.slice Aw q cw).ownBlock = some j) w (w7.setRow gp (rpC 0 0 0 0)) := HT7.out.then_grown (grown_row w7 gp _) (fun k e => .inr (by rw [← Option.some.inj e]; exact hle))
    have HF := Lib.hid (And.intro hX8 (And.intro hB8 (And.intro hO8 (And.intro hT8 hpl))))
    clear hX8 hB8 hO8 hT8 T78 hpl HB7 HP7 HO7 HT7
    go_wp2_with fail
    exact bodyPost_ret (res_serve rfl _ _ gp 0 0 0 0 rfl HF.out.1) rfl ⟨rfl, A6, c6, HF.out.2.1, HF.out.2.2.1, HF.out.2.2.2.2, HF.out.2.2.2.1⟩
end Go.Proofs.YtkdlofgfkfhofaaGreatDoor
