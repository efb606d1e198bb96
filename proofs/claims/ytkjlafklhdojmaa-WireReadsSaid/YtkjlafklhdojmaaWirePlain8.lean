/- The reference's reader, plainly; it agrees with the program's reader while there is no error, and in every error. No program in sight. -/
import Derived.Test.YtkjlafklhdojmaaWirePlain3
import Derived.Test.YtkjlafklhdojmaaWireVal
namespace Go.Proofs.Ytkjlafklhdojmaa
set_option linter.unusedVariables false
namespace V
theorem rdF_err : ∀ (bs : List UInt8) (i : Nat) (n : UInt64), (rdF i n bs).2.2 ≠ 0 → (rdF i n bs).1 = 0
  | [], i, n, _ => rfl
  | c :: bs, i, n, h => by
    unfold rdF at h ⊢
    split
    · rfl
    · rename_i h1
      rw [if_neg h1] at h
      split
      · rename_i h2
        rw [if_pos h2] at h
        exact absurd rfl h
      · rename_i h2
        rw [if_neg h2] at h
        exact rdF_err bs _ _ h
theorem rdUint_err0 {s : St} (h : (rdUint s).2.2 ≠ 0) : (rdUint s).1 = 0 := by
  unfold rdUint at h ⊢
  split
  · rename_i h1; rw [if_pos h1] at h; exact rdF_err _ _ _ h
  · rfl
theorem rdUint_stop {s : St} (h : s.2 ≠ 0) : rdUint s = (0, s) := by unfold rdUint; rw [if_neg h]
/-- The reference's Uint: bytes are taken only where there is no error. -/
def rUint (s : St) : UInt64 × St := if (rdUint s).2.2 = 0 then rdUint s else (0, (s.1, (rdUint s).2.2))
def rInt (s : St) : Int × St := (uz (rUint s).1, (rUint s).2)
def rLim (s : St) (most : Int) : St := if (rUint s).2.2 = 0 ∧ (most < 0 ∨ most < ((rUint s).1.toNat : Int)) then ((rUint s).2.1, 2) else (rUint s).2
def rLen (s : St) (most : Int) : Nat := if (rLim s most).2 = 0 then (rUint s).1.toNat else 0
def rBytes (most : Int) (s : St) : List UInt8 × St :=
  if (rLim s most).2 = 0 then
    if rLen s most ≤ (rLim s most).1.length then ((rLim s most).1.take (rLen s most), ((rLim s most).1.drop (rLen s most), 0)) else ([], ((rLim s most).1, 7))
  else ([], rLim s most)
def rInts (most : Int) (s : St) : List Int × St :=
  if (rdN rInt (rLen s most) (rLim s most)).2.2 = 0 then rdN rInt (rLen s most) (rLim s most) else ([], (rdN rInt (rLen s most) (rLim s most)).2)
def rRead (kind most : Int) (s : St) : Vl × St :=
  if kind = 0 then (⟨kind, (rUint s).1, 0, [], []⟩, (rUint s).2)
  else if kind = 1 then (⟨kind, 0, (rInt s).1, [], []⟩, (rInt s).2)
  else if kind = 2 then (⟨kind, 0, 0, (rBytes most s).1, []⟩, (rBytes most s).2)
  else (⟨kind, 0, 0, [], (rInts most s).1⟩, (rInts most s).2)
/-- The two readers agree. -/
def Eqv (s s' : St) : Prop := s.2 = s'.2 ∧ (s.2 = 0 → s.1 = s'.1)
theorem Eqv.refl (s : St) : Eqv s s := ⟨rfl, fun _ => rfl⟩
theorem Eqv.eq {s s' : St} (h : Eqv s s') (h0 : s.2 = 0) : s = s' := Prod.ext (h.2 h0) h.1
theorem eqv_uint {s s' : St} (h : Eqv s s') : (rdUint s).1 = (rUint s').1 ∧ Eqv (rdUint s).2 (rUint s').2 := by
  by_cases h0 : s.2 = 0
  · have e := h.eq h0
    subst e
    unfold rUint
    by_cases h1 : (rdUint s).2.2 = 0
    · rw [if_pos h1]; exact ⟨rfl, Eqv.refl _⟩
    · rw [if_neg h1]; exact ⟨rdUint_err0 h1, rfl, fun h2 => absurd h2 h1⟩
  · have h0' : s'.2 ≠ 0 := by rw [← h.1]; exact h0
    have e : rUint s' = (0, s') := by
      unfold rUint
      rw [rdUint_stop h0']
      show (if s'.2 = 0 then _ else _) = _
      rw [if_neg h0']
    rw [rdUint_stop h0, e]
    exact ⟨rfl, h⟩
theorem eqv_int {s s' : St} (h : Eqv s s') : (rdInt s).1 = (rInt s').1 ∧ Eqv (rdInt s).2 (rInt s').2 := by
  obtain ⟨h1, h2⟩ := eqv_uint h
  exact ⟨by show uz _ = uz _; rw [h1], h2⟩
theorem eqv_lim {s s' : St} (h : Eqv s s') (most : Int) : Eqv (lim s most) (rLim s' most) := by
  obtain ⟨h1, h2⟩ := eqv_uint h
  unfold lim rLim
  rw [h1]
  by_cases hc : most < 0 ∨ most < ((rUint s').1.toNat : Int)
  · rw [if_pos hc]
    by_cases h0 : (rUint s').2.2 = 0
    · rw [if_pos ⟨h0, hc⟩]
      have h3 : (rdUint s).2.2 = 0 := by rw [h2.1]; exact h0
      unfold fail
      rw [if_pos h3]
      exact ⟨rfl, fun h => absurd h (by show ¬ (2 : Int) = 0; decide)⟩
    · rw [if_neg (fun h => h0 h.1)]
      have h3 : (rdUint s).2.2 ≠ 0 := by rw [h2.1]; exact h0
      unfold fail
      rw [if_neg h3]
      exact h2
  · rw [if_neg hc, if_neg (fun h => hc h.2)]
    exact h2
theorem rdN_next : ∀ (k : Nat) (bs : List UInt8), (rdN next k (bs, 0)).2.2 = 0 ∧ k ≤ bs.length ∧ rdN next k (bs, 0) = (bs.take k, (bs.drop k, 0)) ∨ bs.length < k ∧ (rdN next k (bs, 0)).2 = ([], 7)
  | 0, bs => .inl ⟨rfl, Nat.zero_le _, by simp [rdN]⟩
  | k + 1, [] => .inr ⟨by simp, by
      rw [rdN_go next k rfl]
      show (rdN next k ([], 7)).2 = _
      rw [rdN_stop next k (by show (7 : Int) ≠ 0; decide)]⟩
  | k + 1, b :: bs => by
    rw [rdN_go next k rfl]
    show (rdN next k (bs, 0)).2.2 = 0 ∧ k + 1 ≤ (b :: bs).length ∧ (b :: (rdN next k (bs, 0)).1, (rdN next k (bs, 0)).2) = _ ∨ (b :: bs).length < k + 1 ∧ (rdN next k (bs, 0)).2 = _
    rcases rdN_next k bs with ⟨h1, h2, h3⟩ | ⟨h1, h2⟩
    · exact .inl ⟨h1, by simp; omega, by rw [h3]; rfl⟩
    · exact .inr ⟨by simp; omega, h2⟩
theorem rdN_eqv {f f' : St → Int × St} (hf : ∀ s s', Eqv s s' → (f s).1 = (f' s').1 ∧ Eqv (f s).2 (f' s').2) : ∀ (k : Nat) (s s' : St), Eqv s s' → (rdN f k s).1 = (rdN f' k s').1 ∧ Eqv (rdN f k s).2 (rdN f' k s').2
  | 0, s, s', h => ⟨rfl, h⟩
  | k + 1, s, s', h => by
    unfold rdN
    by_cases h0 : s.2 = 0
    · have h0' : s'.2 = 0 := by rw [← h.1]; exact h0
      rw [if_pos h0, if_pos h0']
      obtain ⟨h1, h2⟩ := hf s s' h
      obtain ⟨h3, h4⟩ := rdN_eqv hf k _ _ h2
      exact ⟨by show _ :: _ = _ :: _; rw [h1, h3], h4⟩
    · have h0' : s'.2 ≠ 0 := by rw [← h.1]; exact h0
      rw [if_neg h0, if_neg h0']
      exact ⟨rfl, h⟩
theorem rdN_stop' {α : Type} (f : St → α × St) (k k' : Nat) {s : St} (h : s.2 ≠ 0) : rdN f k s = rdN f k' s := by rw [rdN_stop f k h, rdN_stop f k' h]
theorem eqv_read {s s' : St} (h : Eqv s s') (kind most : Int) : (read kind most s).1 = (rRead kind most s').1 ∧ Eqv (read kind most s).2 (rRead kind most s').2 := by
  obtain ⟨hu1, hu2⟩ := eqv_uint h
  obtain ⟨hi1, hi2⟩ := eqv_int h
  have hl := eqv_lim h most
  unfold read rRead
  split
  · exact ⟨by show Vl.mk _ _ _ _ _ = Vl.mk _ _ _ _ _; rw [hu1], hu2⟩
  · split
    · exact ⟨by show Vl.mk _ _ _ _ _ = Vl.mk _ _ _ _ _; rw [hi1], hi2⟩
    · split
      · have hb : (rdList next most s).1 = (rBytes most s').1 ∧ Eqv (rdList next most s).2 (rBytes most s').2 := by
          unfold rdList rBytes rLen
          rw [hu1]
          by_cases h0 : (rLim s' most).2 = 0
          · have h0' : (lim s most).2 = 0 := by rw [hl.1]; exact h0
            have e := hl.eq h0'
            rw [if_pos h0, if_pos h0]
            have e2 : lim s most = ((rLim s' most).1, 0) := by rw [e]; exact Prod.ext rfl h0
            rw [e2]
            rcases rdN_next (rUint s').1.toNat (rLim s' most).1 with ⟨h1, h2, h3⟩ | ⟨h1, h2⟩
            · rw [h3, if_pos rfl, if_pos h2]; exact ⟨rfl, Eqv.refl _⟩
            · rw [if_neg (by rw [h2]; show (7 : Int) ≠ 0; decide), if_neg (by omega), h2]
              exact ⟨rfl, rfl, fun h => absurd h (by decide)⟩
          · have h0' : (lim s most).2 ≠ 0 := by rw [hl.1]; exact h0
            rw [if_neg h0, rdN_stop next _ h0', if_neg h0']
            exact ⟨rfl, hl⟩
        exact ⟨by show Vl.mk _ _ _ _ _ = Vl.mk _ _ _ _ _; rw [hb.1], hb.2⟩
      · have hb : (rdList rdInt most s).1 = (rInts most s').1 ∧ Eqv (rdList rdInt most s).2 (rInts most s').2 := by
          have hk : (rdN rdInt (rdUint s).1.toNat (lim s most)).1 = (rdN rInt (rLen s' most) (rLim s' most)).1 ∧ Eqv (rdN rdInt (rdUint s).1.toNat (lim s most)).2 (rdN rInt (rLen s' most) (rLim s' most)).2 := by
            unfold rLen
            rw [hu1]
            by_cases h0 : (rLim s' most).2 = 0
            · rw [if_pos h0]; exact rdN_eqv (fun _ _ h => eqv_int h) _ _ _ hl
            · rw [if_neg h0, rdN_stop' rInt 0 (rUint s').1.toNat h0]; exact rdN_eqv (fun _ _ h => eqv_int h) _ _ _ hl
          unfold rdList rInts
          by_cases h0 : (rdN rInt (rLen s' most) (rLim s' most)).2.2 = 0
          · rw [if_pos h0, if_pos (by rw [hk.2.1]; exact h0)]; exact hk
          · rw [if_neg h0, if_neg (by rw [hk.2.1]; exact h0)]; exact ⟨rfl, hk.2⟩
        exact ⟨by show Vl.mk _ _ _ _ _ = Vl.mk _ _ _ _ _; rw [hb.1], hb.2⟩
theorem rUint_le (s : St) : (rUint s).2.1.length ≤ s.1.length := by
  unfold rUint
  split
  · exact rdUint_le s
  · exact Nat.le_refl _
theorem rLim_le (s : St) (most : Int) : (rLim s most).1.length ≤ s.1.length := by
  unfold rLim
  split
  · exact rUint_le s
  · exact rUint_le s
theorem rLen_le (s : St) (most : Int) (hm : most ≤ 9223372036854775807) : rLen s most ≤ 9223372036854775807 := by
  unfold rLen
  split
  · rename_i h
    unfold rLim at h
    split at h
    · exact absurd h (by show ¬ (2 : Int) = 0; decide)
    · rename_i h2
      by_cases h3 : most < 0 ∨ most < ((rUint s).1.toNat : Int)
      · exact absurd ⟨h, h3⟩ h2
      · omega
  · omega
theorem rInt_takes : Takes rInt := by
  intro s hs
  rcases rdUint_takes s hs with h | ⟨h, h2⟩
  · by_cases h1 : (rdUint s).2.2 = 0
    · left
      show (rUint s).2.1.length + 1 ≤ _
      unfold rUint
      rw [if_pos h1]; exact h
    · right
      show (rUint s).2.2 ≠ 0 ∧ _
      unfold rInt rUint
      rw [if_neg h1]
      exact ⟨h1, Nat.le_refl _⟩
  · right
    show (rUint s).2.2 ≠ 0 ∧ _
    unfold rInt rUint
    rw [if_neg h]
    exact ⟨h, Nat.le_refl _⟩
theorem rRead_le (kind most : Int) (s : St) : (rRead kind most s).2.1.length ≤ s.1.length := by
  unfold rRead
  split
  · exact rUint_le s
  · split
    · exact rUint_le s
    · split
      · show (rBytes most s).2.1.length ≤ _
        have := rLim_le s most
        unfold rBytes
        split
        · split
          · simp only [List.length_drop]; omega
          · exact this
        · exact this
      · show (rInts most s).2.1.length ≤ _
        have := rLim_le s most
        have h2 : ∀ (k : Nat) (s : St), (rdN rInt k s).2.1.length ≤ s.1.length := by
          intro k
          induction k with
          | zero => intro s; exact Nat.le_refl _
          | succ k ih =>
            intro s
            unfold rdN
            split
            · exact Nat.le_trans (ih (rInt s).2) (rUint_le s)
            · exact Nat.le_refl _
        have h3 := h2 (rLen s most) (rLim s most)
        unfold rInts
        split
        · omega
        · show (rdN rInt (rLen s most) (rLim s most)).2.1.length ≤ _; omega
end V
end Go.Proofs.Ytkjlafklhdojmaa
