/-
  AskOnly: what is right no more when one field is turned.
-/
import Derived.Test.YtpfdbbcfcimmfaaGreatDoorAsk
import Derived.Test.YtpfdbbcfcimmfaaGreatDoorEOnlyM
namespace Go.Proofs.YtpfdbbcfcimmfaaGreatDoor
open Go.RowKit

theorem notA {x : Ask} (h : rightA x = true → False) : rightA x = false := by
  cases hx : rightA x
  · rfl
  · exact (h hx).elim
theorem onlyA_time (x : Ask) (hk : x.kind = 7) (k : Int) (h : 1 ≤ k) : rightA ⟨x.corr, x.kind, x.topic, x.group, x.part, x.parts, x.first, x.off, x.most, k, x.bat⟩ = false := notA fun hr => by
  obtain ⟨_, ⟨hw, _⟩ | ⟨_, hd⟩⟩ := rightA_facts hr
  · have := writ_iff.1 hw
    dsimp only at this
    omega
  · have h1 := congrArg Ask.time (made_back hd)
    dsimp only [Ask.num] at h1
    rw [hk] at h1
    change (0 : Int) = k at h1
    omega
theorem madeA_most {k : Int} (h : k ≠ 7) (vs : List Val) : (madeA k vs).most = 0 := by
  unfold madeA
  rw [if_neg h]
  split
  · rfl
  · split <;> rfl
theorem madeA_group {k : Int} (h : k ≠ 9) (vs : List Val) : (madeA k vs).group = nul := by
  unfold madeA
  by_cases h7 : k = 7
  · rw [if_pos h7]
  · rw [if_neg h7]
    by_cases h8 : k = 8
    · rw [if_pos h8]
    · rw [if_neg h8, if_neg h]
theorem onlyA_most (x : Ask) (hk : x.kind ≠ 7) (k : Int) (h : 1 ≤ k) : rightA ⟨x.corr, x.kind, x.topic, x.group, x.part, x.parts, x.first, x.off, k, x.time, x.bat⟩ = false := notA fun hr => by
  obtain ⟨_, ⟨_, hm, _⟩ | ⟨_, hd⟩⟩ := rightA_facts hr
  · dsimp only at hm
    omega
  · have h1 := congrArg Ask.most (made_back hd)
    dsimp only [Ask.num] at h1
    rw [madeA_most hk] at h1
    omega
theorem onlyA_parts (x : Ask) (hk : x.kind = 4 ∨ x.kind = 9) (k : Int) (h : 1 ≤ k) : rightA ⟨x.corr, x.kind, x.topic, x.group, x.part, k, x.first, x.off, x.most, x.time, x.bat⟩ = false := notA fun hr => by
  obtain ⟨_, ⟨hw, _, _, he⟩ | ⟨_, hd⟩⟩ := rightA_facts hr
  · have h4 : x.kind = 4 := by
      have := writ_iff.1 hw
      dsimp only at this
      omega
    have h1 := congrArg Ent.parts (right_facts he).2.2.2.2
    dsimp only [Ask.ent] at h1
    rw [h4] at h1
    change (0 : Int) = k at h1
    omega
  · have h1 := (reads_facts hd).2.2.1
    simp only [bareA, Bool.and_eq_true, decide_eq_true_eq] at h1
    omega
theorem onlyA_group (x : Ask) (h4 : x.kind ≠ 4) (h9 : x.kind ≠ 9) : rightA ⟨x.corr, x.kind, x.topic, ⟨#[103]⟩, x.part, x.parts, x.first, x.off, x.most, x.time, x.bat⟩ = false := notA fun hr => by
  obtain ⟨_, ⟨_, _, _, he⟩ | ⟨_, hd⟩⟩ := rightA_facts hr
  · have h1 := only_group x.ent h4
    rw [show rightE (Ask.ent ⟨x.corr, x.kind, x.topic, ⟨#[103]⟩, x.part, x.parts, x.first, x.off, x.most, x.time, x.bat⟩) = false from h1] at he
    cases he
  · have h1 := congrArg Ask.group (made_back hd)
    dsimp only [Ask.num] at h1
    rw [madeA_group h9] at h1
    exact absurd h1 (by decide)
theorem onlyA_corr (x : Ask) (k : Int) (h : 1 ≤ k) : rightA ⟨(-k), x.kind, x.topic, x.group, x.part, x.parts, x.first, x.off, x.most, x.time, x.bat⟩ = false := notA fun hr => by
  have h1 := (rightA_facts hr).1.1
  dsimp only at h1
  omega
theorem onlyA_kind (x : Ask) (k : Int) (h : 1 ≤ k) : rightA ⟨x.corr, (9 + k), x.topic, x.group, x.part, x.parts, x.first, x.off, x.most, x.time, x.bat⟩ = false := notA fun hr => by
  have h1 := (right_kindA hr).2
  dsimp only at h1
  omega
theorem writes_at (k : Int) (b : Bool) (h : writK k = b) (w : World) : Calls Tryz.prog 28 #[.int .i64 k] w fun e w' => e = .returned (.bool b) ∧ w = w' := by
  subst h
  exact writes_any k w
theorem isA_set1 (w : World) (g G : Nat) (r : Array Value) (hr : r.size = 14) (hg : isA w g) : isA (w.setRow g r) G ↔ isA w G := by
  constructor
  · rintro ⟨old, h1, h2⟩
    by_cases e : G = g
    · subst e; exact hg
    · refine ⟨old, ?_, h2⟩
      unfold Bk at h1 ⊢
      rwa [setRow_other w g G r e] at h1
  · rintro ⟨old, h1, h2⟩
    by_cases e : G = g
    · subst e; exact ⟨r, h1.row r, hr⟩
    · exact ⟨old, h1.row_far r e, h2⟩
theorem isA_set2 (w : World) (g g' G : Nat) (r r' : Array Value) (hr : r.size = 14) (hr' : r'.size = 14) (hg : isA w g) (hg' : isA w g') : isA ((w.setRow g r).setRow g' r') G ↔ isA w G := by
  rw [isA_set1 _ g' G r' hr' ((isA_set1 w g g' r hr hg).2 hg'), isA_set1 w g G r hr hg]
/-- four rows, copies of one -/
structure Four (w : World) (g7 g8 g9 g10 : Nat) (r : Array Value) : Prop where
  k7 : Bk w g7 47 r
  k8 : Bk w g8 47 r
  k9 : Bk w g9 47 r
  k10 : Bk w g10 47 r
theorem Four.made {w : World} {a b c d : Nat} {r : Array Value} (h1 : isA w a) (h2 : isA w b) (h3 : isA w c) (h4 : isA w d) (n1 : a ≠ b) (n2 : a ≠ c) (n3 : a ≠ d) (n4 : b ≠ c) (n5 : b ≠ d) (n6 : c ≠ d) : Four ((((w.setRow a r).setRow b r).setRow c r).setRow d r) a b c d r := by
  obtain ⟨o1, k1, _⟩ := h1
  obtain ⟨o2, k2, _⟩ := h2
  obtain ⟨o3, k3, _⟩ := h3
  obtain ⟨o4, k4, _⟩ := h4
  exact ⟨(((k1.row r).row_far r n1).row_far r n2).row_far r n3, (((k2.row_far r (Ne.symm n1)).row r).row_far r n4).row_far r n5, (((k3.row_far r (Ne.symm n2)).row_far r (Ne.symm n4)).row r).row_far r n6, (((k4.row_far r (Ne.symm n3)).row_far r (Ne.symm n5)).row_far r (Ne.symm n6)).row r⟩
end Go.Proofs.YtpfdbbcfcimmfaaGreatDoor
