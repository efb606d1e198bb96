/- Plain facts: what reads without an error was written so: values. No program in sight. -/
import Derived.Test.YtkjlafklhdojmaaWirePlain6
namespace Go.Proofs.Ytkjlafklhdojmaa
set_option linter.unusedVariables false
namespace V
theorem rdList_canon {α : Type} (f : St → α × St) (most : Int) {bs rest : List UInt8} {l : List α} (h : rdList f most (bs, 0) = (l, (rest, 0))) :
    ∃ (k : Nat) (bs1 : List UInt8), bs = enc (UInt64.ofNat k) ++ bs1 ∧ (k : Int) ≤ most ∧ rdN f k (bs1, 0) = (l, (rest, 0)) := by
  unfold rdList at h
  by_cases hc : (rdN f (rdUint (bs, 0)).1.toNat (lim (bs, 0) most)).2.2 = 0
  · rw [if_pos hc] at h
    have h0 := rdN_ok f _ hc
    have hlim : ¬ (most < 0 ∨ most < ((rdUint (bs, 0)).1.toNat : Int)) := by
      intro hbad
      unfold lim at h0
      rw [if_pos hbad] at h0
      exact fail_ok (by decide) h0
    have e : lim (bs, 0) most = (rdUint (bs, 0)).2 := by unfold lim; rw [if_neg hlim]
    rw [e] at h h0
    obtain ⟨⟨n, bs1, e1⟩, hr⟩ : ∃ r, rdUint (bs, 0) = r := ⟨_, rfl⟩
    rw [hr] at h h0 hlim
    have h0 : e1 = 0 := h0
    subst h0
    refine ⟨n.toNat, bs1, ?_, ?_, h⟩
    · rw [rdUint_canon hr]; simp
    · have : ¬ (most < 0 ∨ most < (n.toNat : Int)) := hlim
      omega
  · rw [if_neg hc] at h
    have h2 : (rdN f (rdUint (bs, 0)).1.toNat (lim (bs, 0) most)).2 = (rest, 0) := congrArg (fun r => r.2) h
    exact absurd (by rw [h2]) hc
theorem read_canon {kind most : Int} (hk : 0 ≤ kind ∧ kind < 4) (m : Nat) (hm : most ≤ (m : Int)) {bs rest : List UInt8} {x : Vl} (h : read kind most (bs, 0) = (x, (rest, 0))) : bs = encV x ++ rest ∧ VOk m x := by
  unfold read at h
  by_cases h0 : kind = 0
  · subst h0
    rw [if_pos rfl] at h
    have h1 : (⟨0, (rdUint (bs, 0)).1, 0, [], []⟩ : Vl) = x := congrArg (fun r => r.1) h
    have h2 : (rdUint (bs, 0)).2 = (rest, 0) := congrArg (fun r => r.2) h
    subst h1
    exact ⟨rdUint_canon (bs := bs) (rest := rest) (n := (rdUint (bs, 0)).1) (by rw [← h2]), .inl ⟨rfl, rfl, rfl, rfl⟩⟩
  · by_cases h1 : kind = 1
    · subst h1
      rw [if_neg (by decide), if_pos rfl] at h
      have h1 : (⟨1, 0, (rdInt (bs, 0)).1, [], []⟩ : Vl) = x := congrArg (fun r => r.1) h
      have h2 : (rdInt (bs, 0)).2 = (rest, 0) := congrArg (fun r => r.2) h
      subst h1
      obtain ⟨h3, h4⟩ := rdInt_canon (bs := bs) (rest := rest) (n := (rdInt (bs, 0)).1) (by rw [← h2])
      exact ⟨h3, .inr (.inl ⟨rfl, rfl, h4, rfl, rfl⟩)⟩
    · by_cases h2 : kind = 2
      · subst h2
        rw [if_neg (by decide), if_neg (by decide), if_pos rfl] at h
        have h1 : (⟨2, 0, 0, (rdList next most (bs, 0)).1, []⟩ : Vl) = x := congrArg (fun r => r.1) h
        have h2 : (rdList next most (bs, 0)).2 = (rest, 0) := congrArg (fun r => r.2) h
        obtain ⟨k, bs1, e1, e2, e3⟩ := rdList_canon next most (bs := bs) (rest := rest) (l := (rdList next most (bs, 0)).1) (by rw [← h2])
        obtain ⟨e4, e5⟩ := rdN_bytes_canon k bs1 _ rest e3
        subst h1
        refine ⟨?_, .inr (.inr (.inl ⟨rfl, rfl, rfl, by show (rdList next most (bs, 0)).1.length ≤ m; omega, rfl⟩))⟩
        show bs = enc (UInt64.ofNat (rdList next most (bs, 0)).1.length) ++ (rdList next most (bs, 0)).1 ++ rest
        rw [e5, List.append_assoc, ← e4]; exact e1
      · obtain rfl : kind = 3 := by omega
        rw [if_neg (by decide), if_neg (by decide), if_neg (by decide)] at h
        have h1 : (⟨3, 0, 0, [], (rdList rdInt most (bs, 0)).1⟩ : Vl) = x := congrArg (fun r => r.1) h
        have h2 : (rdList rdInt most (bs, 0)).2 = (rest, 0) := congrArg (fun r => r.2) h
        obtain ⟨k, bs1, e1, e2, e3⟩ := rdList_canon rdInt most (bs := bs) (rest := rest) (l := (rdList rdInt most (bs, 0)).1) (by rw [← h2])
        obtain ⟨e4, e5, e6⟩ := rdN_ints_canon k bs1 _ rest e3
        subst h1
        refine ⟨?_, .inr (.inr (.inr ⟨rfl, rfl, rfl, rfl, by show (rdList rdInt most (bs, 0)).1.length ≤ m; omega, e6⟩))⟩
        show bs = enc (UInt64.ofNat (rdList rdInt most (bs, 0)).1.length) ++ encI (rdList rdInt most (bs, 0)).1 ++ rest
        rw [e5, List.append_assoc, ← e4]; exact e1
end V
end Go.Proofs.Ytkjlafklhdojmaa
