/-
  Bytes as a string, and bytes.Equal.
-/
import Derived.Test.YtcggnphoekmoaaaCut
namespace Go.Proofs.Ytcggnphoekmoaaa
open Go.RowKit

theorem push_fold (l : List UInt8) : ∀ (acc : Array UInt8), (l.map w8).foldl (fun (r : ByteArray) (n : Int) => r.push (UInt8.ofNat n.toNat)) ⟨acc⟩ = ⟨acc ++ l.toArray⟩ := by
  induction l with
  | nil => intro acc; simp
  | cons b l ih =>
    intro acc
    have e : UInt8.ofNat (w8 b).toNat = b := by
      apply UInt8.toNat_inj.1
      have := b.toNat_lt
      unfold w8
      rw [UInt8.toNat_ofNat']
      omega
    show (l.map w8).foldl _ (ByteArray.push (ByteArray.mk acc) (UInt8.ofNat (w8 b).toNat)) = _
    rw [e]
    show (l.map w8).foldl _ (ByteArray.mk (acc.push b)) = _
    rw [ih]
    simp
/-- a list of bytes as a string -/
def strB (l : List UInt8) : ByteArray := ⟨l.toArray⟩
theorem strB_list (l : List UInt8) : (strB l).toList = l := by
  rw [ByteArray.toList_eq]
  rfl
theorem conv_string {w : World} {A : Option Addr} {n c : Nat} {l : List UInt8} (h : RdB w A n c l) : (convert 24 9 (.slice A n c)).run Try.prog w = .ok (.string (strB l)) w := by
  rw [run_convert_bytes_string w _ _ _ A n c Try.underlying24 Try.underlying5 Try.underlying9]
  rcases A with _ | ad
  · obtain rfl := h.none_len
    have hl : l = [] := List.eq_nil_of_length_eq_zero h.len
    subst hl
    simp [Conv.bytesToString, strB]
    rfl
  · have hn : (l.map w8).length = n := by rw [List.length_map, h.len]
    rw [run_bytesToString w ad n c (l.map w8)]
    · have := push_fold l #[]
      simp at this
      rw [show (ByteArray.empty) = (⟨#[]⟩ : ByteArray) from rfl, this]
      rfl
    · have e : (l.map w8).map (Value.int .u8) = bvs l := by simp [bvs, bv, Function.comp_def]
      rw [e]
      have := run_loadCells_list (P := Try.prog) w ad (bvs l) (fun j v hv => by
        obtain ⟨ad', ea, _, hc⟩ := Rd.cell h j v hv
        injection ea with ea
        subst ea
        exact hc)
      rw [bvs_len, h.len] at this
      exact this
set_option maxRecDepth 100000 in
set_option maxHeartbeats 400000 in
theorem equal_any (A : Option Addr) (n c : Nat) (l : List UInt8) (A' : Option Addr) (n' c' : Nat) (l' : List UInt8) (w : World) (h : RdB w A n c l) (h' : RdB w A' n' c' l') :
    Calls Try.prog 32 #[.slice A n c, .slice A' n' c'] w fun e w' => e = .returned (.bool (decide (l = l'))) ∧ w = w' := by
  have e1 := conv_string h
  have e2 := conv_string h'
  have k1 := strB_list l
  have k2 := strB_list l'
  clear h h'
  go_enter Try.func32, Try.ntmps32
  go_wp2
  go_ret
  exact ⟨ret_bool (by rw [Bool.eq_iff_iff]; simp), rfl⟩
end Go.Proofs.Ytcggnphoekmoaaa
