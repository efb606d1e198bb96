/- Plain facts on readers of lists. No program in sight. -/
import Derived.Test.YtfanhbemmjcomaaWirePlain
namespace Go.Proofs.Ytfanhbemmjcomaa
namespace V
/-- Reading n elements, while there is no error. -/
def rdN {α : Type} (f : St → α × St) : Nat → St → List α × St
  | 0, s => ([], s)
  | k + 1, s => if s.2 = 0 then ((f s).1 :: (rdN f k (f s).2).1, (rdN f k (f s).2).2) else ([], s)
/-- The state behind a list's length. -/
def lim (s : St) (most : Int) : St := if most < 0 ∨ most < ((rdUint s).1.toNat : Int) then fail (rdUint s).2 2 else (rdUint s).2
/-- Reading a list. -/
def rdList {α : Type} (f : St → α × St) (most : Int) (s : St) : List α × St :=
  if (rdN f (rdUint s).1.toNat (lim s most)).2.2 = 0 then rdN f (rdUint s).1.toNat (lim s most) else ([], (rdN f (rdUint s).1.toNat (lim s most)).2)
/-- f takes a byte at least, or fails. -/
def Takes {α : Type} (f : St → α × St) : Prop := ∀ s : St, s.2 = 0 → (f s).2.1.length + 1 ≤ s.1.length ∨ ((f s).2.2 ≠ 0 ∧ (f s).2.1.length ≤ s.1.length)
theorem next_takes : Takes next := by
  rintro ⟨bs, e⟩ he
  obtain rfl : e = 0 := he
  cases bs with
  | nil => exact .inr ⟨by show (7 : Int) ≠ 0; decide, Nat.le_refl _⟩
  | cons b bs => exact .inl (by simp [next])
theorem rdF_le : ∀ (bs : List UInt8) (i : Nat) (n : UInt64), (rdF i n bs).2.1.length ≤ bs.length
  | [], i, n => by simp [rdF]
  | b :: bs, i, n => by
    unfold rdF
    split
    · simp
    · split
      · simp
      · have := rdF_le bs (i + 1) (n ||| UInt64.ofNat (b.toNat % 128) <<< UInt64.ofNat (7 * i))
        simp only [List.length_cons]; omega
theorem rdUint_le (s : St) : (rdUint s).2.1.length ≤ s.1.length := by
  unfold rdUint; split
  · exact rdF_le _ _ _
  · exact Nat.le_refl _
theorem rdUint_takes : Takes rdUint := by
  rintro ⟨bs, e⟩ he
  unfold rdUint
  rw [if_pos he]
  cases bs with
  | nil => exact .inr ⟨by show (7 : Int) ≠ 0; decide, Nat.le_refl _⟩
  | cons b bs =>
    refine .inl ?_
    show (rdF 0 0 (b :: bs)).2.1.length + 1 ≤ (b :: bs).length
    unfold rdF
    split
    · simp
    · split
      · simp
      · have := rdF_le bs (0 + 1) (0 ||| UInt64.ofNat (b.toNat % 128) <<< UInt64.ofNat (7 * 0))
        simp only [List.length_cons]; omega
theorem rdInt_takes : Takes rdInt := rdUint_takes
theorem rdN_stop {α : Type} (f : St → α × St) (k : Nat) {s : St} (h : s.2 ≠ 0) : rdN f k s = ([], s) := by
  cases k with
  | zero => rfl
  | succ k => unfold rdN; rw [if_neg h]
theorem rdN_go {α : Type} (f : St → α × St) (k : Nat) {s : St} (h : s.2 = 0) : rdN f (k + 1) s = ((f s).1 :: (rdN f k (f s).2).1, (rdN f k (f s).2).2) := by
  rw [rdN, if_pos h]
/-- A round of the loop that reads. -/
theorem rdN_round {α : Type} (f : St → α × St) {n i : Nat} {l : List α} {s : St} {R : List α × St} (hi : i < n) (h : s.2 = 0) (hR : (l ++ (rdN f (n - i) s).1, (rdN f (n - i) s).2) = R) :
    ((l ++ [(f s).1]) ++ (rdN f (n - (i + 1)) (f s).2).1, (rdN f (n - (i + 1)) (f s).2).2) = R := by
  rw [← hR, show n - i = (n - (i + 1)) + 1 from by omega, rdN_go f _ h]
  simp
theorem fail_le (s : St) (e : Int) : (fail s e).1 = s.1 := by unfold fail; split <;> rfl
theorem lim_le (s : St) (most : Int) : (lim s most).1.length ≤ s.1.length := by
  unfold lim
  split
  · rw [fail_le]; exact rdUint_le s
  · exact rdUint_le s
end V
end Go.Proofs.Ytfanhbemmjcomaa
