/- Plain facts: what reads without an error was written so: lists, values. No program in sight. -/
import Derived.Test.YtkjlafklhdojmaaWirePlain5
import Derived.Test.YtkjlafklhdojmaaWireLawsP
namespace Go.Proofs.Ytkjlafklhdojmaa
set_option linter.unusedVariables false
namespace V
theorem fail_ok {s : St} {e : Int} (he : e ≠ 0) (h : (fail s e).2 = 0) : False := by
  unfold fail at h
  split at h
  · exact he h
  · rename_i h2; exact h2 h
theorem rdN_bytes_canon : ∀ (k : Nat) (bs : List UInt8) (l rest : List UInt8), rdN next k (bs, 0) = (l, (rest, 0)) → bs = l ++ rest ∧ l.length = k
  | 0, bs, l, rest, h => by
    have h1 : ([] : List UInt8) = l := congrArg (fun r => r.1) h
    have h2 : bs = rest := congrArg (fun r => r.2.1) h
    subst h1 h2; exact ⟨rfl, rfl⟩
  | k + 1, bs, l, rest, h => by
    rw [rdN_go next k rfl] at h
    cases bs with
    | nil =>
      have h3 : (rdN next k ([], 7)).2.2 = 0 := congrArg (fun r => r.2.2) h
      rw [rdN_stop next _ (by show (7 : Int) ≠ 0; decide)] at h3
      exact absurd h3 (by decide)
    | cons b bs =>
      have h1 : b :: (rdN next k (bs, 0)).1 = l := congrArg (fun r => r.1) h
      have h2 : (rdN next k (bs, 0)).2 = (rest, 0) := congrArg (fun r => r.2) h
      obtain ⟨h3, h4⟩ := rdN_bytes_canon k bs (rdN next k (bs, 0)).1 rest (by rw [← h2])
      subst h1
      exact ⟨by rw [List.cons_append, ← h3], by simp [h4]⟩
theorem rdInt_canon {bs rest : List UInt8} {n : Int} (h : rdInt (bs, 0) = (n, (rest, 0))) : bs = enc (zz n) ++ rest ∧ inr n := by
  have h1 : uz (rdUint (bs, 0)).1 = n := congrArg (fun r => r.1) h
  have h2 : (rdUint (bs, 0)).2 = (rest, 0) := congrArg (fun r => r.2) h
  have h3 := rdUint_canon (bs := bs) (rest := rest) (n := (rdUint (bs, 0)).1) (by rw [← h2])
  rw [← h1, zz_uz]
  exact ⟨h3, uz_bd _⟩
theorem rdInt_err_of {s : St} (h : (rdInt s).2.2 = 0) : s.2 = 0 := by
  by_cases h0 : s.2 = 0
  · exact h0
  · rw [rdInt_err h0] at h; exact absurd h h0
theorem rdN_ok {α : Type} (f : St → α × St) (k : Nat) {s : St} (h : (rdN f k s).2.2 = 0) : s.2 = 0 := by
  by_cases h0 : s.2 = 0
  · exact h0
  · rw [rdN_stop f k h0] at h; exact absurd h h0
theorem rdN_ints_canon : ∀ (k : Nat) (bs : List UInt8) (l : List Int) (rest : List UInt8), rdN rdInt k (bs, 0) = (l, (rest, 0)) → bs = encI l ++ rest ∧ l.length = k ∧ ∀ n ∈ l, inr n
  | 0, bs, l, rest, h => by
    have h1 : ([] : List Int) = l := congrArg (fun r => r.1) h
    have h2 : bs = rest := congrArg (fun r => r.2.1) h
    subst h1 h2; exact ⟨rfl, rfl, by simp⟩
  | k + 1, bs, l, rest, h => by
    rw [rdN_go rdInt k rfl] at h
    have h1 : (rdInt (bs, 0)).1 :: (rdN rdInt k (rdInt (bs, 0)).2).1 = l := congrArg (fun r => r.1) h
    have h2 : (rdN rdInt k (rdInt (bs, 0)).2).2 = (rest, 0) := congrArg (fun r => r.2) h
    have h0 : (rdInt (bs, 0)).2.2 = 0 := rdN_ok rdInt k (by rw [h2])
    obtain ⟨⟨n, bs2, e2⟩, hr⟩ : ∃ r, rdInt (bs, 0) = r := ⟨_, rfl⟩
    rw [hr] at h0 h1 h2
    have h0 : e2 = 0 := h0
    subst h0
    obtain ⟨h5, h6⟩ := rdInt_canon hr
    obtain ⟨h3, h4, h7⟩ := rdN_ints_canon k bs2 (rdN rdInt k (bs2, 0)).1 rest (by rw [← h2])
    subst h1
    refine ⟨?_, by simp [h4], ?_⟩
    · rw [h5]
      show _ = encI (n :: (rdN rdInt k (bs2, 0)).1) ++ rest
      have e : encI (n :: (rdN rdInt k (bs2, 0)).1) = enc (zz n) ++ encI (rdN rdInt k (bs2, 0)).1 := by simp [encI]
      rw [e, List.append_assoc, ← h3]
    · intro x hx
      rcases List.mem_cons.1 hx with h | h
      · rw [h]; exact h6
      · exact h7 x h
end V
end Go.Proofs.Ytkjlafklhdojmaa
