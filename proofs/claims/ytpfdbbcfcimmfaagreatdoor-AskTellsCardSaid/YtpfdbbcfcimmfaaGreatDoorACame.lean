/-
  An ask that came in.
-/
import Derived.Test.YtpfdbbcfcimmfaaGreatDoorECame
import Derived.Test.YtpfdbbcfcimmfaaGreatDoorAsk
import Derived.SliceStrings
namespace Go.Proofs.YtpfdbbcfcimmfaaGreatDoor
open Go.ChangeShapes Go.WideShapes Go.ChangeAt Go.RowKit
open Go.ChangeMaps (open_string)
theorem cells_ask : Tryz.prog.cellsOf 47 = 14 := by kernel_rfl
set_option maxRecDepth 100000 in
theorem Came.ask {H : Type} {enc : TypeId × Value → H} {W : World} {base : Nat} {v : Value} {d : DataW H} {p : List MemPlace} (h : Came enc W base 47 v d p) :
    ∃ (e : Ask) (A : Option Addr) (n c : Nat), v = .agg #[.int .i64 e.corr, .int .i64 e.kind, .string e.topic, .string e.group, .int .i64 e.part, .int .i64 e.parts, .int .i64 e.first, .int .i64 e.off, .int .i64 e.most, .int .i64 e.time, .int .i64 e.bat.time, .int .i64 e.bat.prod, .int .i64 e.bat.seq, .slice A n c] ∧ RdT W A n c e.bat.vals := by
  obtain ⟨cs, rfl, hsz⟩ := okWide_struct Tryz.underlying47 h.1
  rw [cells_ask] at hsz
  obtain ⟨fuel, hf⟩ := h.2
  obtain ⟨xs, n, _, _, _, hxs, hfi⟩ := DataW.trod_struct Tryz.underlying47 hf
  have hx8 : xs.length = 11 := hxs
  have num : ∀ (i : Nat) (f : Field), (match Tryz.prog.underlying 47 with | some (.struct fs) => fs | _ => #[])[i]? = some f → f.type = 3 → f.offset = i → i < 11 → ∃ z : Int, cs.toList[i]? = some (.int .i64 z) ∧ fitI z := by
    intro i f hf1 ht ho hi
    have h1 := hfi i f (by rw [Tryz.underlying47] at hf1; exact hf1)
    rw [ht, ho, cells_int', List.getElem?_eq_getElem (by omega)] at h1
    obtain ⟨z, hz, _, hw⟩ := DataW.trod_int Tryz.underlying3 h1
    exact ⟨z, one_of hz, wf_i64 hw⟩
  have str : ∀ (i : Nat) (f : Field), (match Tryz.prog.underlying 47 with | some (.struct fs) => fs | _ => #[])[i]? = some f → f.type = 9 → f.offset = i → i < 11 → ∃ s : ByteArray, cs.toList[i]? = some (.string s) ∧ s.size ≤ maxLen := by
    intro i f hf1 ht ho hi
    have h1 := hfi i f (by rw [Tryz.underlying47] at hf1; exact hf1)
    rw [ht, ho, cells_str', List.getElem?_eq_getElem (by omega)] at h1
    obtain ⟨s, hz, _, hw⟩ := DataW.trod_string Tryz.underlying9 h1
    exact ⟨s, one_of hz, hw⟩
  obtain ⟨a0, h0, b0⟩ := num 0 _ (by rw [Tryz.underlying47]; rfl) rfl rfl (by omega)
  obtain ⟨a1, h1, b1⟩ := num 1 _ (by rw [Tryz.underlying47]; rfl) rfl rfl (by omega)
  obtain ⟨a2, h2, b2⟩ := str 2 _ (by rw [Tryz.underlying47]; rfl) rfl rfl (by omega)
  obtain ⟨a3, h3, b3⟩ := str 3 _ (by rw [Tryz.underlying47]; rfl) rfl rfl (by omega)
  obtain ⟨a4, h4, b4⟩ := num 4 _ (by rw [Tryz.underlying47]; rfl) rfl rfl (by omega)
  obtain ⟨a5, h5, b5⟩ := num 5 _ (by rw [Tryz.underlying47]; rfl) rfl rfl (by omega)
  obtain ⟨a6, h6, b6⟩ := num 6 _ (by rw [Tryz.underlying47]; rfl) rfl rfl (by omega)
  obtain ⟨a7, h7, b7⟩ := num 7 _ (by rw [Tryz.underlying47]; rfl) rfl rfl (by omega)
  obtain ⟨a8, h8, b8⟩ := num 8 _ (by rw [Tryz.underlying47]; rfl) rfl rfl (by omega)
  obtain ⟨a9, h9, b9⟩ := num 9 _ (by rw [Tryz.underlying47]; rfl) rfl rfl (by omega)
  have bt : ∀ (f : Field), (match Tryz.prog.underlying 47 with | some (.struct fs) => fs | _ => #[])[10]? = some f → f.type = 24 → f.offset = 10 → ∃ t p s A n c l, (cs.toList.drop 10).take 4 = [.int .i64 t, .int .i64 p, .int .i64 s, .slice A n c] ∧ RdT W A n c l ∧ fitI t ∧ fitI p ∧ fitI s ∧ ∀ s ∈ l, s.size ≤ maxLen := by
    intro f hf1 ht ho
    have h1 := hfi 10 f (by rw [Tryz.underlying47] at hf1; exact hf1)
    rw [ht, ho, cells_bat, List.getElem?_eq_getElem (by omega)] at h1
    exact batch_of (by simp [hsz]) h1
  obtain ⟨t, q, s, A, n', c', l, h10, b10, _, _, _, _⟩ := bt _ (by rw [Tryz.underlying47]; rfl) rfl rfl
  refine ⟨⟨a0, a1, a2, a3, a4, a5, a6, a7, a8, a9, ⟨t, q, s, l⟩⟩, A, n', c', ?_, b10⟩
  congr 1
  apply Array.ext'
  have hlen : cs.toList.length = 14 := by simp [hsz]
  generalize cs.toList = L at h0 h1 h2 h3 h4 h5 h6 h7 h8 h9 h10 hlen
  obtain ⟨x0, x1, x2, x3, x4, x5, x6, x7, x8, x9, x10, x11, x12, x13, rfl⟩ : ∃ x0 x1 x2 x3 x4 x5 x6 x7 x8 x9 x10 x11 x12 x13, L = [x0, x1, x2, x3, x4, x5, x6, x7, x8, x9, x10, x11, x12, x13] := by
    match L, hlen with
    | [x0, x1, x2, x3, x4, x5, x6, x7, x8, x9, x10, x11, x12, x13], _ => exact ⟨x0, x1, x2, x3, x4, x5, x6, x7, x8, x9, x10, x11, x12, x13, rfl⟩
  simp at h0 h1 h2 h3 h4 h5 h6 h7 h8 h9 h10
  obtain ⟨rfl, rfl, rfl, rfl⟩ := h10
  subst h0 h1 h2 h3 h4 h5 h6 h7 h8 h9
  rfl
end Go.Proofs.YtpfdbbcfcimmfaaGreatDoor
