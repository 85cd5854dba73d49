/-
  A frame that came in as an argument: its numbers and its bytes.
-/
import Derived.Test.YtcggnphoekmoaaaOpen
import Derived.Test.YtcggnphoekmoaaaFrmMem
namespace Go.Proofs.Ytcggnphoekmoaaa
open Go.ChangeShapes Go.WideShapes Go.ChangeAt Go.RowKit

theorem one_of {α : Type} {l : List α} {k : Nat} {x : α} (h : (l.drop k).take 1 = [x]) : l[k]? = some x := by
  have h0 : ((l.drop k).take 1)[0]? = some x := by rw [h]; rfl
  rw [List.getElem?_take] at h0
  simp at h0
  exact h0
theorem cells_int : Try.prog.cellsOf 3 = 1 := by kernel_rfl
theorem cells_data : Try.prog.cellsOf 36 = 108 := by kernel_rfl
theorem cells_frm : Try.prog.cellsOf 38 = 112 := by kernel_rfl
theorem Came.frame {H : Type} {enc : TypeId × Value → H} {W : World} {base : Nat} {v : Value} {d : DataW H} {p : List MemPlace} (h : Came enc W base 38 v d p) : ∃ f : Frm, v = .agg f.cells ∧ f.ok := by
  obtain ⟨cs, rfl, hsz⟩ := okWide_struct Try.underlying38 h.1
  rw [cells_frm] at hsz
  obtain ⟨fuel, hf⟩ := h.2
  obtain ⟨xs, n, _, _, _, hxs, hfi⟩ := DataW.trod_struct Try.underlying38 hf
  have num : ∀ (i off : Nat) (f : Field), (match Try.prog.underlying 38 with | some (.struct fs) => fs | _ => #[])[i]? = some f → f.type = 3 → f.offset = off → i < xs.length → ∃ z : Int, cs.toList[off]? = some (.int .i64 z) ∧ -9223372036854775808 ≤ z ∧ z ≤ 9223372036854775807 := by
    intro i off f hf1 ht ho hi
    have h1 := hfi i f (by rw [Try.underlying38] at hf1; exact hf1)
    rw [ht, ho, cells_int, List.getElem?_eq_getElem hi] at h1
    obtain ⟨z, hz, _, hw⟩ := DataW.trod_int Try.underlying3 h1
    have := wf_i64 hw
    exact ⟨z, one_of hz, this.1, this.2⟩
  have hx5 : xs.length = 5 := hxs
  obtain ⟨a, ha, a1, a2⟩ := num 0 0 _ (by rw [Try.underlying38]; rfl) rfl rfl (by omega)
  obtain ⟨b, hb, b1, b2⟩ := num 1 1 _ (by rw [Try.underlying38]; rfl) rfl rfl (by omega)
  obtain ⟨c, hc, c1, c2⟩ := num 2 2 _ (by rw [Try.underlying38]; rfl) rfl rfl (by omega)
  obtain ⟨e, he, e1, e2⟩ := num 3 3 _ (by rw [Try.underlying38]; rfl) rfl rfl (by omega)
  have hdat := hfi 4 ⟨"Data", 36, 4, false, "", "", 32⟩ rfl
  rw [List.getElem?_eq_getElem (by omega)] at hdat
  have hdat : DataW.trod enc Try.prog W 0 (fun _ => true) true n 36 ((cs.toList.drop 4).take (Try.prog.cellsOf 36)) = some (xs[4]'(by omega)) := hdat
  rw [cells_data] at hdat
  obtain ⟨ys, m, _, _, _, hyl, hy⟩ := DataW.trod_array Try.underlying36 hdat
  have hby : ∀ k : Nat, ∃ x : UInt8, k < 108 → cs.toList[4 + k]? = some (bv x) := by
    intro k
    by_cases hk : k < 108
    · have h1 := hy k hk
      rw [cells_byte, Nat.mul_one, List.getElem?_eq_getElem (by omega)] at h1
      obtain ⟨z, hz, _, hw⟩ := DataW.trod_int Try.underlying5 h1
      have hzz := wf_u8 hw
      have h2 := one_of hz
      rw [List.getElem?_take, if_pos hk, List.getElem?_drop] at h2
      refine ⟨UInt8.ofNat z.toNat, fun _ => ?_⟩
      rw [h2]
      unfold bv w8
      rw [UInt8.toNat_ofNat']
      congr 2
      omega
    · exact ⟨0, fun h => absurd h hk⟩
  obtain ⟨f, hf'⟩ := Classical.axiomOfChoice hby
  refine ⟨⟨a, b, c, e, (List.range 108).map f⟩, ?_, ⟨a1, a2, b1, b2, c1, c2, e1, e2, by simp⟩⟩
  congr 1
  apply Array.ext'
  unfold Frm.cells
  apply List.ext_getElem?
  intro i
  match i with
  | 0 => exact ha
  | 1 => exact hb
  | 2 => exact hc
  | 3 => exact he
  | k + 4 =>
    by_cases hk : k < 108
    · rw [show k + 4 = 4 + k by omega, hf' k hk]
      show _ = (_ :: _ :: _ :: _ :: bvs ((List.range 108).map f))[4 + k]?
      rw [show 4 + k = k + 4 by omega]
      show _ = (bvs ((List.range 108).map f))[k]?
      unfold bvs
      rw [List.getElem?_map, List.getElem?_map, List.getElem?_range hk]
      rfl
    · rw [List.getElem?_eq_none (by rw [Array.length_toList]; omega)]
      symm
      apply List.getElem?_eq_none
      simp [bvs]
      omega
end Go.Proofs.Ytcggnphoekmoaaa
