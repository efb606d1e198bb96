/- Plain facts: what reads without an error was written so. No program in sight. -/
import Derived.Test.YtkjlafklhdojmaaWirePlain3
namespace Go.Proofs.Ytkjlafklhdojmaa
namespace V
theorem rd_canon (n : UInt64) (rest : List UInt8) : ∀ (bs : List UInt8) (i f : Nat) (acc : UInt64), i + f = 9 → acc.toNat < 128 ^ i → rdF i acc bs = (n, rest, 0) → ∃ m, bs = encF f m ++ rest ∧ n.toNat = acc.toNat + m * 128 ^ i ∧ (0 < i → 0 < m)
  | [], i, f, acc, hif, ha, h => by
    have h7 : (7 : Int) = 0 := congrArg (fun r => r.2.2) h
    exact absurd h7 (by decide)
  | c :: bs, i, f, acc, hif, ha, h => by
    have hc256 := c.toNat_lt
    unfold rdF at h
    by_cases hbad : (i = 9 ∧ 1 < c.toNat) ∨ (0 < i ∧ c.toNat = 0)
    · rw [if_pos hbad] at h
      have h8 : (8 : Int) = 0 := congrArg (fun r => r.2.2) h
      exact absurd h8 (by decide)
    · rw [if_neg hbad] at h
      by_cases hs : c.toNat < 128
      · rw [if_pos hs] at h
        have hd : c.toNat % 128 = c.toNat := Nat.mod_eq_of_lt hs
        rw [hd] at h
        have h1 : acc ||| UInt64.ofNat c.toNat <<< UInt64.ofNat (7 * i) = n := congrArg (fun r => r.1) h
        have h2 : bs = rest := congrArg (fun r => r.2.1) h
        have hlt : c.toNat * 128 ^ i < 18446744073709551616 := by
          by_cases h9 : i = 9
          · subst h9
            have e : (128 : Nat) ^ 9 = 9223372036854775808 := by decide
            have : c.toNat ≤ 1 := by omega
            rw [e]; omega
          · exact low_lt (by omega) hs
        refine ⟨c.toNat, ?_, ?_, by omega⟩
        · rw [encF_small hs, h2]
          have : UInt8.ofNat c.toNat = c := UInt8.toNat_inj.1 (byte_nat _ (by omega))
          rw [this]; rfl
        · rw [← h1]; exact acc_nat acc c.toNat i ha (by omega) hlt hs
      · rw [if_neg hs] at h
        have hi8 : i ≤ 8 := by omega
        obtain ⟨f', rfl⟩ : ∃ f', f = f' + 1 := ⟨f - 1, by omega⟩
        have hlt : c.toNat % 128 < 128 := Nat.mod_lt _ (by omega)
        have h1 := acc_nat acc (c.toNat % 128) i ha (by omega) (low_lt hi8 hlt) hlt
        have e : 128 ^ (i + 1) = 128 ^ i * 128 := Nat.pow_succ 128 i
        have h3 : c.toNat % 128 * 128 ^ i ≤ 127 * 128 ^ i := Nat.mul_le_mul_right _ (by omega)
        obtain ⟨m, hm1, hm2, hm3⟩ := rd_canon n rest bs (i + 1) f' _ (by omega) (by rw [h1, e]; omega) h
        have hm0 := hm3 (by omega)
        refine ⟨c.toNat % 128 + 128 * m, ?_, ?_, by omega⟩
        · rw [encF_big (by omega), hm1]
          have e1 : (c.toNat % 128 + 128 * m) % 128 + 128 = c.toNat := by omega
          have e2 : (c.toNat % 128 + 128 * m) / 128 = m := by omega
          have e3 : UInt8.ofNat c.toNat = c := UInt8.toNat_inj.1 (byte_nat _ (by omega))
          rw [e1, e2, e3]; rfl
        · rw [hm2, h1, e, Nat.add_mul, Nat.add_assoc, Nat.mul_comm (128 ^ i) 128, ← Nat.mul_assoc, Nat.mul_comm m 128]
theorem rdUint_canon {bs rest : List UInt8} {n : UInt64} (h : rdUint (bs, 0) = (n, (rest, 0))) : bs = enc n ++ rest := by
  unfold rdUint at h
  rw [if_pos rfl] at h
  obtain ⟨m, h1, h2, _⟩ := rd_canon n rest bs 0 9 0 rfl (by decide) h
  have e : m = n.toNat := by simpa using h2.symm
  rw [h1, e]; rfl
end V
end Go.Proofs.Ytkjlafklhdojmaa
