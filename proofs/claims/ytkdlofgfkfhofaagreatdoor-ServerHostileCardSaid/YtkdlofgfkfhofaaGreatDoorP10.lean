import Derived.Test.YtkdlofgfkfhofaaGreatDoorP00
import Derived.Test.YtkdlofgfkfhofaaGreatDoorP03
import Derived.Deep.RegionHeld3
import Derived.Test.YtkdlofgfkfhofaaGreatDoorP07
import Derived.Test.YtkdlofgfkfhofaaGreatDoorP05
/-
  GF(256) as data: the tables of powers and of logarithms, products, inverses.
-/
namespace Go.Proofs.YtkdlofgfkfhofaaGreatDoor

def gfStep (x : Nat) : Nat := if 256 ≤ 2 * x then (2 * x) ^^^ 285 else 2 * x
def gfPow : Nat → Nat
  | 0 => 1
  | i + 1 => gfStep (gfPow i)
/-- the tables behind so many rounds -/
def expL : Nat → List UInt8
  | 0 => rep 510 0
  | i + 1 => ((expL i).set i (UInt8.ofNat (gfPow i))).set (i + 255) (UInt8.ofNat (gfPow i))
def logL : Nat → List Int
  | 0 => (List.replicate 256 0).set 0 (-1)
  | i + 1 => (logL i).set (gfPow i) i
def expT : List UInt8 := [1, 2, 4, 8, 16, 32, 64, 128, 29, 58, 116, 232, 205, 135, 19, 38, 76, 152, 45, 90, 180, 117, 234, 201, 143, 3, 6, 12, 24, 48, 96, 192, 157, 39, 78, 156, 37, 74, 148, 53, 106, 212, 181, 119, 238, 193, 159, 35, 70, 140, 5, 10, 20, 40, 80, 160, 93, 186, 105, 210, 185, 111, 222, 161, 95, 190, 97, 194, 153, 47, 94, 188, 101, 202, 137, 15, 30, 60, 120, 240, 253, 231, 211, 187, 107, 214, 177, 127, 254, 225, 223, 163, 91, 182, 113, 226, 217, 175, 67, 134, 17, 34, 68, 136, 13, 26, 52, 104, 208, 189, 103, 206, 129, 31, 62, 124, 248, 237, 199, 147, 59, 118, 236, 197, 151, 51, 102, 204, 133, 23, 46, 92, 184, 109, 218, 169, 79, 158, 33, 66, 132, 21, 42, 84, 168, 77, 154, 41, 82, 164, 85, 170, 73, 146, 57, 114, 228, 213, 183, 115, 230, 209, 191, 99, 198, 145, 63, 126, 252, 229, 215, 179, 123, 246, 241, 255, 227, 219, 171, 75, 150, 49, 98, 196, 149, 55, 110, 220, 165, 87, 174, 65, 130, 25, 50, 100, 200, 141, 7, 14, 28, 56, 112, 224, 221, 167, 83, 166, 81, 162, 89, 178, 121, 242, 249, 239, 195, 155, 43, 86, 172, 69, 138, 9, 18, 36, 72, 144, 61, 122, 244, 245, 247, 243, 251, 235, 203, 139, 11, 22, 44, 88, 176, 125, 250, 233, 207, 131, 27, 54, 108, 216, 173, 71, 142, 1, 2, 4, 8, 16, 32, 64, 128, 29, 58, 116, 232, 205, 135, 19, 38, 76, 152, 45, 90, 180, 117, 234, 201, 143, 3, 6, 12, 24, 48, 96, 192, 157, 39, 78, 156, 37, 74, 148, 53, 106, 212, 181, 119, 238, 193, 159, 35, 70, 140, 5, 10, 20, 40, 80, 160, 93, 186, 105, 210, 185, 111, 222, 161, 95, 190, 97, 194, 153, 47, 94, 188, 101, 202, 137, 15, 30, 60, 120, 240, 253, 231, 211, 187, 107, 214, 177, 127, 254, 225, 223, 163, 91, 182, 113, 226, 217, 175, 67, 134, 17, 34, 68, 136, 13, 26, 52, 104, 208, 189, 103, 206, 129, 31, 62, 124, 248, 237, 199, 147, 59, 118, 236, 197, 151, 51, 102, 204, 133, 23, 46, 92, 184, 109, 218, 169, 79, 158, 33, 66, 132, 21, 42, 84, 168, 77, 154, 41, 82, 164, 85, 170, 73, 146, 57, 114, 228, 213, 183, 115, 230, 209, 191, 99, 198, 145, 63, 126, 252, 229, 215, 179, 123, 246, 241, 255, 227, 219, 171, 75, 150, 49, 98, 196, 149, 55, 110, 220, 165, 87, 174, 65, 130, 25, 50, 100, 200, 141, 7, 14, 28, 56, 112, 224, 221, 167, 83, 166, 81, 162, 89, 178, 121, 242, 249, 239, 195, 155, 43, 86, 172, 69, 138, 9, 18, 36, 72, 144, 61, 122, 244, 245, 247, 243, 251, 235, 203, 139, 11, 22, 44, 88, 176, 125, 250, 233, 207, 131, 27, 54, 108, 216, 173, 71, 142]
def logT : List Int := [(-1), 0, 1, 25, 2, 50, 26, 198, 3, 223, 51, 238, 27, 104, 199, 75, 4, 100, 224, 14, 52, 141, 239, 129, 28, 193, 105, 248, 200, 8, 76, 113, 5, 138, 101, 47, 225, 36, 15, 33, 53, 147, 142, 218, 240, 18, 130, 69, 29, 181, 194, 125, 106, 39, 249, 185, 201, 154, 9, 120, 77, 228, 114, 166, 6, 191, 139, 98, 102, 221, 48, 253, 226, 152, 37, 179, 16, 145, 34, 136, 54, 208, 148, 206, 143, 150, 219, 189, 241, 210, 19, 92, 131, 56, 70, 64, 30, 66, 182, 163, 195, 72, 126, 110, 107, 58, 40, 84, 250, 133, 186, 61, 202, 94, 155, 159, 10, 21, 121, 43, 78, 212, 229, 172, 115, 243, 167, 87, 7, 112, 192, 247, 140, 128, 99, 13, 103, 74, 222, 237, 49, 197, 254, 24, 227, 165, 153, 119, 38, 184, 180, 124, 17, 68, 146, 217, 35, 32, 137, 46, 55, 63, 209, 91, 149, 188, 207, 205, 144, 135, 151, 178, 220, 252, 190, 97, 242, 86, 211, 171, 20, 42, 93, 158, 132, 60, 57, 83, 71, 109, 65, 162, 31, 45, 67, 216, 183, 123, 164, 118, 196, 23, 73, 236, 127, 12, 111, 246, 108, 161, 59, 82, 41, 157, 85, 170, 251, 96, 134, 177, 187, 204, 62, 90, 203, 89, 95, 176, 156, 169, 160, 81, 11, 245, 22, 235, 122, 117, 44, 215, 79, 174, 213, 233, 230, 231, 173, 232, 116, 214, 244, 234, 168, 80, 88, 175]
theorem gfPow_lt : ∀ k, k ≤ 255 → 1 ≤ gfPow k ∧ gfPow k < 256 := by
  have h : ∀ k : Fin 256, 1 ≤ gfPow k.val ∧ gfPow k.val < 256 := by decide +kernel
  exact fun k hk => h ⟨k, by omega⟩
theorem expL_len : ∀ k, (expL k).length = 510
  | 0 => rep_len _ _
  | k + 1 => by
    show (((expL k).set k _).set (k + 255) _).length = 510
    rw [List.length_set, List.length_set, expL_len k]
theorem logL_len : ∀ k, (logL k).length = 256
  | 0 => by
    show ((List.replicate 256 0).set 0 (-1)).length = 256
    rw [List.length_set, List.length_replicate]
  | k + 1 => by
    show ((logL k).set (gfPow k) k).length = 256
    rw [List.length_set, logL_len k]
theorem expL_full : expL 255 = expT := by decide +kernel
theorem logL_full : logL 255 = logT := by decide +kernel
/-- which power of 2 a byte is; a power of 2 -/
def lgG (a : UInt8) : Int := logT.getD a.toNat 0
def exG (n : Nat) : UInt8 := expT.getD n 0
theorem lgG_in : ∀ a : UInt8, a ≠ 0 → 0 ≤ lgG a ∧ lgG a ≤ 254 := by
  have h : ∀ n : Fin 256, n.val ≠ 0 → 0 ≤ logT.getD n.val 0 ∧ logT.getD n.val 0 ≤ 254 := by decide +kernel
  intro a ha
  exact h ⟨a.toNat, a.toNat_lt⟩ (fun e => ha (by
    have e : a.toNat = 0 := e
    exact UInt8.toNat_inj.1 e))
def mulG (a b : UInt8) : UInt8 := if a = 0 ∨ b = 0 then 0 else exG (lgG a + lgG b).toNat
def invG (a : UInt8) : UInt8 := if a = 0 then 0 else exG (255 - lgG a).toNat
/-- x times a row, added to another one -/
def addG (x : UInt8) : List UInt8 → List UInt8 → List UInt8
  | t :: ts, f :: fs => (t ^^^ mulG x f) :: addG x ts fs
  | ts, [] => ts
  | [], _ :: _ => []
theorem addG_len (x : UInt8) : ∀ t f : List UInt8, (addG x t f).length = t.length
  | t :: ts, f :: fs => by
    show (addG x ts fs).length + 1 = ts.length + 1
    rw [addG_len x ts fs]
  | [], [] => rfl
  | _ :: _, [] => rfl
  | [], _ :: _ => rfl
theorem addG_get (x : UInt8) : ∀ (t f : List UInt8) (k : Nat), (addG x t f)[k]? = match t[k]?, f[k]? with
    | some a, some b => some (a ^^^ mulG x b)
    | some a, none => some a
    | none, _ => none
  | t :: ts, f :: fs, 0 => rfl
  | t :: ts, f :: fs, k + 1 => by
    show (addG x ts fs)[k]? = _
    rw [addG_get x ts fs k]
    rfl
  | [], [], k => by simp [addG]
  | t :: ts, [], k => by
    show (t :: ts)[k]? = _
    cases h : (t :: ts)[k]? <;> simp
  | [], f :: fs, k => by simp [addG]
/-- the first k cells done -/
theorem addG_part (x : UInt8) (t f : List UInt8) (k : Nat) {a b : UInt8} (ha : t[k]? = some a) (hb : f[k]? = some b) : (addG x t (f.take k)).set k (a ^^^ mulG x b) = addG x t (f.take (k + 1)) := by
  apply List.ext_getElem?
  intro j
  have hk : k < t.length := (List.getElem?_eq_some_iff.1 ha).1
  rw [List.getElem?_set, addG_len, addG_get, addG_get]
  by_cases e : k = j
  · subst e
    rw [if_pos rfl, if_pos hk, ha, List.getElem?_take, if_pos (by omega), hb]
  · rw [if_neg e, List.getElem?_take, List.getElem?_take]
    by_cases h : j < k
    · rw [if_pos h, if_pos (by omega)]
    · rw [if_neg h, if_neg (by omega)]
theorem addG_none (x : UInt8) (t : List UInt8) : addG x t [] = t := by cases t <;> rfl
end Go.Proofs.YtkdlofgfkfhofaaGreatDoor

/-
  gf: Mul, Inv, Add.
-/
namespace Go.Proofs.YtkdlofgfkfhofaaGreatDoor
open Go.RowKit

/-- the cells of a field -/
def fldC (E : List UInt8) (L : List Int) : Array Value := (bvs E ++ L.map (Value.int .i64)).toArray
theorem fldC_exp {E : List UInt8} {L : List Int} (hE : E.length = 510) {i : Nat} (hi : i < 510) : (fldC E L)[i]? = some (.int .u8 (w8 (E.getD i 0))) := by
  unfold fldC
  have h1 : (bvs E).length = 510 := by rw [bvs_len, hE]
  rw [List.getElem?_toArray, List.getElem?_append_left (by omega), bvs_get E i (by omega), List.getD_eq_getElem?_getD, List.getElem?_eq_getElem (by omega)]
  rfl
theorem fldC_log {E : List UInt8} {L : List Int} (hE : E.length = 510) (hL : L.length = 256) {i : Nat} (hi : i < 256) : (fldC E L)[510 + i]? = some (.int .i64 (L.getD i 0)) := by
  unfold fldC
  have h1 : (bvs E).length = 510 := by rw [bvs_len, hE]
  rw [List.getElem?_toArray, List.getElem?_append_right (by omega), h1, show 510 + i - 510 = i by omega, List.getElem?_map, List.getD_eq_getElem?_getD, List.getElem?_eq_getElem (by omega)]
  rfl
/-- the Field behind block f -/
def FieldAt (w : World) (f : Nat) : Prop := Bk w f 434 (fldC expT logT)
theorem expT_len : expT.length = 510 := by rw [← expL_full]; exact expL_len 255
theorem logT_len : logT.length = 256 := by rw [← logL_full]; exact logL_len 255
theorem FieldAt.exp {w : World} {f : Nat} (h : FieldAt w f) {i : Nat} (hi : i < 510) : w.cell? ⟨f, i, none⟩ = some (.int .u8 (w8 (exG i))) := (Bk.cell h i).trans (fldC_exp expT_len hi)
theorem FieldAt.log {w : World} {f : Nat} (h : FieldAt w f) (a : UInt8) : w.cell? ⟨f, 510 + a.toNat, none⟩ = some (.int .i64 (lgG a)) := (Bk.cell h _).trans (fldC_log expT_len logT_len a.toNat_lt)
theorem w8_nat (a : UInt8) : (w8 a).toNat = a.toNat := by unfold w8; rfl
attribute [local go_sem] w8_nn w8_256 wrap_i64_w8 wrap64_w8 w8_nat
theorem w8_zero {a : UInt8} (h : a ≠ 0) : (w8 a == 0) = false := by
  rw [beq_eq_false_iff_ne]
  intro e
  refine h (w8_inj ?_)
  rw [e]
  rfl
set_option maxRecDepth 100000 in
set_option maxHeartbeats 1000000 in
theorem mul_any {f : Nat} {w : World} (h : FieldAt w f) (a b : UInt8) :
    Calls Tryz.prog 294 #[.pointer (some ⟨f, 0, none⟩), .int .u8 (w8 a), .int .u8 (w8 b)] w fun e w' => e = .returned (.int .u8 (w8 (mulG a b))) ∧ ∃ q, w' = w.drewN q := by
  obtain ⟨m, hm⟩ : ∃ m, mulG a b = m := ⟨_, rfl⟩
  rw [hm]
  unfold mulG at hm
  by_cases ha : a = 0
  · subst ha
    rw [if_pos (.inl rfl)] at hm
    subst hm
    go_enter Tryz.func294, Tryz.ntmps294
    have q : w8 0 = 0 := rfl
    rw [q]
    go_wp2
    go_ret
    exact ⟨rfl, 0, rfl⟩
  · have qa := w8_zero ha
    by_cases hb : b = 0
    · subst hb
      rw [if_pos (.inr rfl)] at hm
      subst hm
      go_enter Tryz.func294, Tryz.ntmps294
      have q : w8 0 = 0 := rfl
      rw [q]
      go_wp2
      go_ret
      exact ⟨rfl, 0, rfl⟩
    · have qb := w8_zero hb
      rw [if_neg (by rintro (h | h); exact ha h; exact hb h)] at hm
      obtain ⟨x, hx⟩ := Int.eq_ofNat_of_zero_le (lgG_in a ha).1
      obtain ⟨y, hy⟩ := Int.eq_ofNat_of_zero_le (lgG_in b hb).1
      have ca : ∀ q, (w.drewN q).cell? ⟨f, 510 + a.toNat, none⟩ = some (.int .i64 (x : Int)) := fun q => by rw [← hx]; exact h.log a
      have cb : ∀ q, (w.drewN q).cell? ⟨f, 510 + b.toNat, none⟩ = some (.int .i64 (y : Int)) := fun q => by rw [← hy]; exact h.log b
      have hxl := (lgG_in a ha).2
      have hyl := (lgG_in b hb).2
      rw [hx, hy, show ((x : Int) + (y : Int)).toNat = x + y by omega] at hm
      have cs : ∀ q, (w.drewN q).cell? ⟨f, x + y, none⟩ = some (.int .u8 (w8 m)) := fun q => by rw [← hm]; exact h.exp (by omega)
      have hx2 : (x : Int) ≤ 254 := by omega
      have hy2 : (y : Int) ≤ 254 := by omega
      clear hm hx hy hxl hyl h ha hb
      go_enter Tryz.func294, Tryz.ntmps294
      go_wp2
      go_quiet (fail)
      go_wp2_with fail
      go_ret
      exact ⟨rfl, _, rfl⟩
set_option maxRecDepth 100000 in
set_option maxHeartbeats 1000000 in
theorem inv_any {f : Nat} {w : World} (h : FieldAt w f) (a : UInt8) :
    Calls Tryz.prog 236 #[.pointer (some ⟨f, 0, none⟩), .int .u8 (w8 a)] w fun e w' => e = .returned (.int .u8 (w8 (invG a))) ∧ ∃ q, w' = w.drewN q := by
  obtain ⟨m, hm⟩ : ∃ m, invG a = m := ⟨_, rfl⟩
  rw [hm]
  unfold invG at hm
  by_cases ha : a = 0
  · subst ha
    rw [if_pos rfl] at hm
    subst hm
    go_enter Tryz.func236, Tryz.ntmps236
    have q : w8 0 = 0 := rfl
    rw [q]
    go_wp2
    go_ret
    exact ⟨rfl, 0, rfl⟩
  · have qa := w8_zero ha
    rw [if_neg ha] at hm
    obtain ⟨x, hx⟩ := Int.eq_ofNat_of_zero_le (lgG_in a ha).1
    have ca : ∀ q, (w.drewN q).cell? ⟨f, 510 + a.toNat, none⟩ = some (.int .i64 (x : Int)) := fun q => by rw [← hx]; exact h.log a
    have hxl := (lgG_in a ha).2
    rw [hx] at hm hxl
    obtain ⟨z, hz⟩ : ∃ z : Nat, (255 : Int) - x = z := Int.eq_ofNat_of_zero_le (by omega)
    rw [hz, Int.toNat_natCast] at hm
    have cs : ∀ q, (w.drewN q).cell? ⟨f, z, none⟩ = some (.int .u8 (w8 m)) := fun q => by rw [← hm]; exact h.exp (by omega)
    have hz2 : (z : Int) ≤ 255 := by omega
    clear hm hx h ha
    go_enter Tryz.func236, Tryz.ntmps236
    go_wp2
    go_quiet (fail)
    go_wp2_with fail
    go_ret
    exact ⟨rfl, _, rfl⟩
end Go.Proofs.YtkdlofgfkfhofaaGreatDoor

/-
  gf: Add.
-/
namespace Go.Proofs.YtkdlofgfkfhofaaGreatDoor
open Go.RowKit

attribute [local go_sem] w8_nn w8_256 wrap_i64_w8 wrap64_w8 xor_u8
set_option maxRecDepth 100000 in
set_option maxHeartbeats 4000000 in
/-- x times a row, added to bytes of one's own -/
theorem add_any {f g cap : Nat} {w : World} (h : FieldAt w f) (hfg : f ≠ g) (T : List UInt8) (ht : OwnAt w g cap T) (c n : Nat) (hn : n = T.length) (A : Option Addr) (m cf : Nat) (F : List UInt8) (hr : RdB w A m cf F) (hA : ∀ ad, A = some ad → ad.block ≠ g) (x : UInt8) (hs : n ≤ 1000) (hsm : m ≤ 1000) :
    Calls Tryz.prog 275 #[.pointer (some ⟨f, 0, none⟩), .slice (some ⟨g, 0, none⟩) n c, .slice A m cf, .int .u8 (w8 x)] w fun e w' => e = .returned (.tuple #[]) ∧ OwnAt w' g cap (addG x T F) ∧ Turned (fun b => b = g) w w' := by
  have HF := Lib.hid h
  have HT := Lib.hid ht
  have HR := Lib.hid hr
  have HA := Lib.hid hA
  obtain ⟨k, hk1, hk2, hk3, hk4⟩ := cut_min n (m : Int) (by omega)
  have hmin : (if m < n then (m : Int) else (n : Int)) = (k : Int) := by
    by_cases e : m < n
    · rw [if_pos e]
      rw [if_pos (by omega)] at hk1
      exact hk1
    · rw [if_neg e]
      rw [if_neg (by omega)] at hk1
      exact hk1
  have HN := Lib.hid hn
  clear h ht hr hA hn
  go_enter Tryz.func275, Tryz.ntmps275
  go_wp2_with fail
  go_loopw [14] (fun i wr => ∃ j : Nat, j ≤ k ∧ i = .int .i64 j ∧ Hid (OwnAt wr g cap (addG x T (F.take j))) ∧ Hid (Turned (fun b => b = g) w wr)) (fun i _ => k - (intOf i).toNat)
  case atStart => exact ⟨0, Nat.zero_le _, rfl, by rw [List.take_zero, addG_none]; exact HT, Turned.refl _ _⟩
  case round =>
    obtain ⟨j, hj, rfl, hO, hG⟩ := hrel
    have htw := hG.out
    by_cases hlt : j < k
    · have hi : (j : Int) < k := by omega
      have hlen := HR.out.len
      have hrw := HR.out.turned htw (fun ad e => HA.out ad e)
      obtain ⟨ad, y, rfl, hy0, hy, cy⟩ := hrw.get (k := j) (by omega)
      obtain ⟨z, hz, cz⟩ := hO.out.get (i := j) (by rw [addG_len, ← HN.out]; omega)
      have fz := hO.out.thaw j
      have HFw := Lib.hid (Bk.turned HF.out htw hfg)
      have hjn : (j : Int) < n := by omega
      have hjm : (j : Int) < m := by omega
      have hadl : (ad.add j).block < wr.heap.size := cell_ltD cy
      have hgl : g < wr.heap.size := hO.out.lt
      have FS : Hid (∀ v, Below wr.heap.size wr v → v.cell? (ad.add j) = some (.int .u8 (w8 y)) ∧ v.cell? ⟨g, j, none⟩ = some (.int .u8 (w8 z)) ∧ v.frozen? ⟨g, j, none⟩ = false) := fun v hv => ⟨(hv.cell hadl).trans cy, (hv.cell (p := ⟨g, j, none⟩) hgl).trans cz, (hO.out.ext hv).thaw j⟩
      have HM : Hid (∀ v, Below wr.heap.size wr v → Calls Tryz.prog 294 #[.pointer (some ⟨f, 0, none⟩), .int .u8 (w8 x), .int .u8 (w8 y)] v fun e w' => e = .returned (.int .u8 (w8 (mulG x y))) ∧ Below wr.heap.size wr w') := fun v hv =>
        (mul_any (Bk.ext HFw.out hv) x y).mono fun e w' ⟨a1, q, a2⟩ => ⟨a1, by rw [a2]; exact below_drawn hv q⟩
      have F0 : Hid (Below wr.heap.size wr wr.drew) := below_drew1 (Below.refl _ _)
      have HO := hO
      clear cy cz fz hlen hrw htw hadl hgl
      go_wp2_with fail
      have g0 := FS.out _ F0.out
      go_region_law (first | (go_simp; go_at_call 294; go_loud ((with_reducible refine (HM.out _ F0.out).mono ?_); rintro er w4 ⟨rfl, hb4⟩; have HB4 := Lib.hid hb4; have g4 := FS.out _ hb4; clear hb4)) | fail)
      all_goals
        have hstep : Hid (OwnAt (w4.setCell ⟨g, j, none⟩ (.int .u8 (w8 (z ^^^ mulG x y)))) g cap (addG x T (F.take (j + 1)))) := by
          have h := (HO.out.ext HB4.out).put j (z ^^^ mulG x y)
          rw [addG_part x T F j ?_ hy.out] at h
          · exact h
          · have h2 := hz.out
            rw [addG_get, List.getElem?_take, if_neg (by omega)] at h2
            cases h3 : T[j]? with
            | none => rw [h3] at h2; cases h2
            | some t => rw [h3] at h2; exact h2
        have hgs : Hid (Turned (fun b => b = g) w (w4.setCell ⟨g, j, none⟩ (.int .u8 (w8 (z ^^^ mulG x y))))) := (hG.out.then_below HB4.out).then_grown (grown_set w4 ⟨g, j, none⟩ _) (fun k e => .inl (Option.some.inj e).symm)
        go_wp2_with fail
        exact ⟨⟨j + 1, by omega, by go_num, hstep, hgs⟩, by simp [intOf]; omega⟩
    · have hk1 : j = k := by omega
      subst hk1
      have hi : ¬ (j : Int) < j := by omega
      go_wp2_with fail
      go_end0
      refine ⟨rfl, ?_, hG.out⟩
      have e : addG x T (F.take j) = addG x T F := by
        rcases hk4.out with e | e
        · apply List.ext_getElem?
          intro i
          rw [addG_get, addG_get, List.getElem?_take]
          by_cases h : i < j
          · rw [if_pos h]
          · rw [if_neg h, List.getElem?_eq_none (l := T) (by rw [← HN.out]; omega)]
        · rw [List.take_of_length_le (by rw [HR.out.len]; omega)]
      rw [← e]
      exact hO.out
end Go.Proofs.YtkdlofgfkfhofaaGreatDoor

/-
  gf: Make.
-/
namespace Go.Proofs.YtkdlofgfkfhofaaGreatDoor
open Go.RowKit

theorem fldC_putE {E : List UInt8} {L : List Int} (hE : E.length = 510) {i : Nat} (hi : i < 510) (x : UInt8) : (fldC E L).setIfInBounds i (.int .u8 (w8 x)) = fldC (E.set i x) L := by
  unfold fldC
  have h1 : (bvs E).length = 510 := by rw [bvs_len, hE]
  rw [List.setIfInBounds_toArray, List.set_append, if_pos (by omega)]
  congr 2
  unfold bvs
  rw [List.map_set]
  rfl
theorem fldC_putL {E : List UInt8} {L : List Int} (hE : E.length = 510) (i : Nat) (z : Int) : (fldC E L).setIfInBounds (510 + i) (.int .i64 z) = fldC E (L.set i z) := by
  unfold fldC
  have h1 : (bvs E).length = 510 := by rw [bvs_len, hE]
  rw [List.setIfInBounds_toArray, List.set_append, if_neg (by omega), h1, show 510 + i - 510 = i by omega, List.map_set]
theorem xor_285 : ∀ n : Fin 512, bits .xor .i64 ((n.val : Nat) : Int) 285 = ((n.val ^^^ 285 : Nat) : Int) := by decide +kernel
theorem w8_of (x : Nat) (h : x < 256) : w8 (UInt8.ofNat x) = (x : Int) := by
  unfold w8
  rw [UInt8.toNat_ofNat']
  omega
theorem fld_zero : (Tryz.zeroCells434).setIfInBounds 510 (.int .i64 (-1)) = fldC (expL 0) (logL 0) := by kernel_rfl
theorem gfPow_succ (k : Nat) : gfPow (k + 1) = gfStep (gfPow k) := rfl
set_option maxRecDepth 100000 in
set_option maxHeartbeats 4000000 in
theorem gfMake_any (w : World) : Calls Tryz.prog 235 #[] w fun e w' => e = .returned (.pointer (some ⟨w.heap.size, 0, none⟩)) ∧ FieldAt w' w.heap.size ∧ Below w.heap.size w w' := by
  go_enter Tryz.func235, Tryz.ntmps235
  go_wp2_with fail
  obtain ⟨g, hg⟩ : ∃ g, g = w.heap.size := ⟨_, rfl⟩
  have H0 : Hid (Bk (w.alloc (.cells ((Tryz.zeroCells434).setIfInBounds 510 (.int .i64 (-1))) 434)) w.heap.size 434 (fldC (expL 0) (logL 0))) := by
    have h := Bk.made w 434 ((Tryz.zeroCells434).setIfInBounds 510 (.int .i64 (-1)))
    rw [fld_zero] at h ⊢
    exact h
  have B0 : Hid (Below w.heap.size w (w.alloc (.cells ((Tryz.zeroCells434).setIfInBounds 510 (.int .i64 (-1))) 434))) := below_new w _
  rw [← hg] at H0 ⊢
  have HG := Lib.hid hg
  clear hg
  go_loopw [2, 10] (fun x i wr => ∃ k : Nat, k ≤ 255 ∧ i = .int .i64 k ∧ x = .int .i64 (gfPow k : Nat) ∧ Hid (Bk wr g 434 (fldC (expL k) (logL k))) ∧ Hid (Below w.heap.size w wr)) (fun _ i _ => 255 - (intOf i).toNat)
  case atStart => exact ⟨0, Nat.zero_le _, rfl, rfl, H0, B0⟩
  case round =>
    obtain ⟨k, hk, rfl, rfl, hF, hB⟩ := hrel
    by_cases hlt : k < 255
    · have hi : (k : Int) < 255 := by omega
      obtain ⟨x, hx⟩ : ∃ x, gfPow k = x := ⟨_, rfl⟩
      have hpw := gfPow_lt k hk
      rw [hx] at hpw ⊢
      obtain ⟨x1, x2⟩ := hpw
      have HX := Lib.hid hx
      clear hx
      have c1 : wr.cell? ⟨g, k, none⟩ = some (.int .u8 (w8 ((expL k).getD k 0))) := (hF.out.cell k).trans (fldC_exp (expL_len k) (by omega))
      have c2 : wr.cell? ⟨g, k + 255, none⟩ = some (.int .u8 (w8 ((expL k).getD (k + 255) 0))) := (hF.out.cell _).trans (fldC_exp (expL_len k) (by omega))
      have f1 : ∀ i, wr.frozen? ⟨g, i, none⟩ = false := fun i => hF.out.thaw i
      go_wp2_with fail
      go_region
      all_goals
        have hW : Hid (Bk ((wr.setCell ⟨g, k, none⟩ (.int .u8 (x : Int))).setCell ⟨g, k + 255, none⟩ (.int .u8 (x : Int))).drew g 434 (fldC (expL (k + 1)) (logL k))) := by
          have h := (hF.out.put k (.int .u8 (w8 (UInt8.ofNat x)))).put (k + 255) (.int .u8 (w8 (UInt8.ofNat x)))
          rw [fldC_putE (expL_len k) (by omega), fldC_putE (by rw [List.length_set, expL_len]) (by omega), w8_of x x2, ← HX.out] at h
          have e : ((expL k).set k (UInt8.ofNat (gfPow k))).set (k + 255) (UInt8.ofNat (gfPow k)) = expL (k + 1) := rfl
          rw [e, HX.out] at h
          exact h
        have hBW : Hid (Below w.heap.size w ((wr.setCell ⟨g, k, none⟩ (.int .u8 (x : Int))).setCell ⟨g, k + 255, none⟩ (.int .u8 (x : Int))).drew) := by
          have q := below_grown hB.out hB.out.size (grown_set wr ⟨g, k, none⟩ (.int .u8 (x : Int))) (by rw [← HG.out]; exact Nat.le_refl _)
          exact below_drew1 (below_grown q q.size (grown_set _ ⟨g, k + 255, none⟩ _) (by rw [← HG.out]; exact Nat.le_refl _))
        generalize ((wr.setCell ⟨g, k, none⟩ (.int .u8 (x : Int))).setCell ⟨g, k + 255, none⟩ (.int .u8 (x : Int))).drew = W at hW hBW ⊢
        clear c1 c2 f1
        · skip
          have c3 : W.cell? ⟨g, 510 + x, none⟩ = some (.int .i64 ((logL k).getD x 0)) := (hW.out.cell _).trans (fldC_log (expL_len _) (logL_len k) x2)
          have f3 : W.frozen? ⟨g, 510 + x, none⟩ = false := hW.out.thaw _
          have hL : Hid (Bk (W.setCell ⟨g, 510 + x, none⟩ (.int .i64 (k : Int))) g 434 (fldC (expL (k + 1)) (logL (k + 1)))) := by
            have h := hW.out.put (510 + x) (.int .i64 (k : Int))
            rw [fldC_putL (expL_len (k + 1))] at h
            have e : (logL k).set (gfPow k) k = logL (k + 1) := rfl
            rw [HX.out] at e
            rw [e] at h
            exact h
          have hBL : Hid (Below w.heap.size w (W.setCell ⟨g, 510 + x, none⟩ (.int .i64 (k : Int)))) := below_grown hBW.out hBW.out.size (grown_set W ⟨g, 510 + x, none⟩ _) (by rw [← HG.out]; exact Nat.le_refl _)
          go_wp2_with fail
          all_goals
            refine ⟨⟨k + 1, by omega, by go_num, ?_, hL, hBL⟩, by simp [intOf]; omega⟩
            rw [gfPow_succ, HX.out]
            unfold gfStep
            first
              | (rw [if_neg (by omega)]; congr 1; omega)
              | (rw [if_pos (by omega)]; congr 1; have h := xor_285 ⟨2 * x, by omega⟩; rw [← h]; congr 1; dsimp only; omega)
    · have hk1 : k = 255 := by omega
      subst hk1
      go_wp2_with fail
      go_ret
      refine ⟨by rw [← HG.out]; rfl, ?_, hB.out⟩
      have h := hF.out
      rw [expL_full, logL_full, HG.out] at h
      exact h
end Go.Proofs.YtkdlofgfkfhofaaGreatDoor

/-
  Slices of byte slices of the call's own.
-/
namespace Go.Proofs.YtkdlofgfkfhofaaGreatDoor
open Go.RowKit Go.Maps

/-- .. from block B on, they and their rows -/
structure RowsAt (w : World) (B : Nat) (v : Value) (vs : Nat → Value) (Ls : List (List UInt8)) : Prop where
  own : w.ownsRow B 26 1 v Ls.length ((List.range Ls.length).map vs)
  row : ∀ i l, Ls[i]? = some l → OwnB w B (vs i) l
section
variable {w w' : World} {B : Nat} {v : Value} {vs : Nat → Value} {Ls : List (List UInt8)}
theorem RowsAt.ext (h : RowsAt w B v vs Ls) (hb : Below w.heap.size w w') : RowsAt w' B v vs Ls :=
  ⟨own_turned (P := fun _ => False) h.own (Turned.of_below hb) (fun _ _ => id), fun i l hl => (h.row i l hl).turnB (Q := fun _ => False) (Turned.of_below hb) (fun _ _ => id)⟩
theorem RowsAt.turned {Q : Nat → Prop} (h : RowsAt w B v vs Ls) (ht : Turned Q w w') (h1 : ∀ g, v.ownBlock = some g → ¬ Q g) (h2 : ∀ i l, Ls[i]? = some l → ∀ g, (vs i).ownBlock = some g → ¬ Q g) : RowsAt w' B v vs Ls :=
  ⟨own_turned h.own ht h1, fun i l hl => (h.row i l hl).turnB ht (h2 i l hl)⟩
theorem RowsAt.nil (w : World) (B : Nat) (vs : Nat → Value) : RowsAt w B (.slice none 0 0) vs [] := ⟨World.ownsRow_nil _ _ _ _, fun i l h => by simp at h⟩
theorem RowsAt.more {B' : Nat} (h : RowsAt w B v vs Ls) (hB : B' ≤ B) : RowsAt w B' v vs Ls :=
  ⟨⟨h.own.1, h.own.2.imp id fun ⟨g, cap, cur, h1, h2, h3⟩ => ⟨g, cap, cur, h1, Nat.le_trans hB h2, h3⟩⟩, fun i l hl => (h.row i l hl).moreD hB⟩
/-- as it is walked -/
theorem RowsAt.open_ (h : RowsAt w B v vs Ls) : ∃ A c, v = .slice A Ls.length c ∧ ∀ k, k < Ls.length → ∃ g, A = some ⟨g, 0, none⟩ ∧ B ≤ g ∧ g < w.heap.size ∧ w.cell? ⟨g, k, none⟩ = some (vs k) := by
  rcases h.own.2 with ⟨h1, h2⟩ | ⟨g, cap, cur, h1, h2, h3, h4, h5, h6, h7⟩
  · refine ⟨none, 0, by rw [h1, h2], fun k hk => by omega⟩
  · refine ⟨_, cap, h1, fun k hk => ⟨g, rfl, h2, (Array.getElem?_eq_some_iff.1 h3).1, ?_⟩⟩
    have hb : Bk w g 26 cur := h3
    rw [hb.cell k]
    have h8 : (List.take (Ls.length * 1) cur.toList)[k]? = ((List.range Ls.length).map vs)[k]? := by rw [h7]
    rw [Nat.mul_one, List.getElem?_take, if_pos hk, List.getElem?_map, List.getElem?_range hk] at h8
    rw [← Array.getElem?_toList, h8]
    rfl
/-- the values behind an append -/
def snocV (vs : Nat → Value) (n : Nat) (u : Value) (i : Nat) : Value := if i = n then u else vs i
theorem rows_snoc {v' u : Value} {l : List UInt8} {n : Nat} (hn : Ls.length = n) (hl : ∀ i l, Ls[i]? = some l → OwnB w' B (vs i) l) (ho : w'.ownsRow B 26 1 v' (n + 1) ((List.range n).map vs ++ [u])) (hu : OwnB w' B u l) :
    RowsAt w' B v' (snocV vs n u) (Ls ++ [l]) := by
  subst hn
  refine ⟨?_, fun i m hm => ?_⟩
  · rw [List.length_append, List.length_singleton, List.range_succ, List.map_append]
    have e : (List.range Ls.length).map (snocV vs Ls.length u) = (List.range Ls.length).map vs := List.map_congr_left fun i hi => if_neg (by have := List.mem_range.1 hi; omega)
    rw [e]
    have e2 : [Ls.length].map (snocV vs Ls.length u) = [u] := by
      show [snocV vs Ls.length u Ls.length] = [u]
      rw [snocV, if_pos rfl]
    rw [e2]
    exact ho
  · by_cases e : i < Ls.length
    · rw [List.getElem?_append_left e] at hm
      show OwnB w' B (if i = Ls.length then u else vs i) m
      rw [if_neg (by omega)]
      exact hl i m hm
    · rw [List.getElem?_append_right (by omega)] at hm
      by_cases e2 : i = Ls.length
      · subst e2
        rw [Nat.sub_self] at hm
        injection hm with hm
        subst hm
        show OwnB w' B (if Ls.length = Ls.length then u else _) _
        rw [if_pos rfl]
        exact hu
      · rw [List.getElem?_eq_none (by simp; omega)] at hm
        cases hm
/-- a block of that element type is no row of bytes -/
theorem OwnB.notT {u : Value} {l : List UInt8} {g : Nat} {t : TypeId} {cs : Array Value} {fr : Nat × Nat} (h : OwnB w B u l) (hg : u.ownBlock = some g) (hk : w.heap[g]? = some (.cells cs t fr)) (ht : t ≠ 5) : False := by
  rcases h.2 with ⟨rfl, _⟩ | ⟨g', cap', cur, rfl, _, h3, _⟩
  · cases hg
  · have e2 : g' = g := Option.some.inj hg
    rw [e2, hk] at h3
    injection h3 with h3
    injection h3 with _ h3
    exact ht h3
theorem RowsAt.notT {g : Nat} {t : TypeId} {cs : Array Value} {fr : Nat × Nat} (h : RowsAt w B v vs Ls) (hg : v.ownBlock = some g) (hk : w.heap[g]? = some (.cells cs t fr)) (ht : t ≠ 26) : False := by
  rcases h.own.2 with ⟨rfl, _⟩ | ⟨g', cap', cur, rfl, _, h3, _⟩
  · cases hg
  · have e2 : g' = g := Option.some.inj hg
    rw [e2, hk] at h3
    injection h3 with h3
    injection h3 with _ h3
    exact ht h3
theorem RowsAt.ownT {g : Nat} (h : RowsAt w B v vs Ls) (hg : v.ownBlock = some g) : ∃ cs, w.heap[g]? = some (.cells cs 26 (0, 0)) ∧ B ≤ g := by
  rcases h.own.2 with ⟨rfl, _⟩ | ⟨g', cap', cur, rfl, hb, h3, _⟩
  · cases hg
  · have e2 : g' = g := Option.some.inj hg
    rw [e2] at h3 hb
    exact ⟨_, h3, hb⟩
theorem RowsAt.app {wn w5 : World} {v5 u : Value} {l : List UInt8} {n : Nat} (h : RowsAt w B v vs Ls) (hn : Ls.length = n) (hbn : Below w.heap.size w wn) (hg : wn.grownBy w5 v.ownBlock) (ho : w5.ownsRow B 26 1 v5 (n + 1) ((List.range n).map vs ++ [u])) (hu : OwnB w B u l) :
    RowsAt w5 B v5 (snocV vs n u) (Ls ++ [l]) ∧ Turned (fun b => v.ownBlock = some b) w w5 := by
  have ht : Turned (fun b => v.ownBlock = some b) w w5 := (Turned.of_below (P := fun b => v.ownBlock = some b) hbn).then_grown hg (fun k e => .inl e)
  have hk : ∀ {x : Value} {m : List UInt8}, OwnB w B x m → OwnB w5 B x m := fun {x m} hx => hx.turnB ht fun g hg he => by
    obtain ⟨cs, h1, _⟩ := h.ownT he
    exact hx.notT hg h1 (by decide)
  exact ⟨rows_snoc hn (fun i l hl => hk (h.row i l hl)) ho (hk hu), ht⟩
theorem RowsAt.setFar {c i : Nat} {x : Value} {t : TypeId} {cs : Array Value} (h : RowsAt w B v vs Ls) (hk : Bk w c t cs) (h1 : t ≠ 5) (h2 : t ≠ 26) : RowsAt (w.setCell ⟨c, i, none⟩ x) B v vs Ls := by
  have ht : Turned (fun b => b = c) w (w.setCell ⟨c, i, none⟩ x) := Turned.of_grown (grown_set w ⟨c, i, none⟩ x) (fun k e => (Option.some.inj e).symm)
  exact h.turned ht (fun g hg e => h.notT (cs := cs) (fr := (0, 0)) hg (by rw [e]; exact hk) h2) (fun i l hl g hg e => (h.row i l hl).notT (cs := cs) (fr := (0, 0)) hg (by rw [e]; exact hk) h1)
theorem one_s (A : Option Addr) (n c : Nat) : ∀ u ∈ [Value.slice A n c], u.oneCell' = true := by
  intro u hu
  rw [List.mem_singleton] at hu
  subst hu
  rfl
end
end Go.Proofs.YtkdlofgfkfhofaaGreatDoor
