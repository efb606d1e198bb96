/- Plain facts: what is written reads back; what reads was written so; what is cut reads short. No program in sight. -/
import Derived.Test.YtfanhbemmjcomaaWirePlain2
namespace Go.Proofs.Ytfanhbemmjcomaa
namespace V
theorem pow7 (i : Nat) : 128 ^ i = 2 ^ (7 * i) := by rw [Nat.pow_mul]
/-- One more byte into the number. -/
theorem acc_nat (n : UInt64) (d i : Nat) (hn : n.toNat < 128 ^ i) (hi : i ≤ 9) (hd : d * 128 ^ i < 18446744073709551616) (hd2 : d < 128) : (n ||| UInt64.ofNat d <<< UInt64.ofNat (7 * i)).toNat = n.toNat + d * 128 ^ i := by
  rw [UInt64.toNat_or, UInt64.toNat_shiftLeft, Nat.shiftLeft_eq, UInt64.toNat_ofNat_of_lt' (show d < UInt64.size by show _ < 18446744073709551616; omega), UInt64.toNat_ofNat_of_lt' (show 7 * i < UInt64.size by show _ < 18446744073709551616; omega), Nat.mod_eq_of_lt (show 7 * i < 64 by omega), ← pow7, Nat.mod_eq_of_lt (show d * 128 ^ i < 2 ^ 64 from hd), pow7] at *
  have := Nat.two_pow_add_eq_or_of_lt hn d
  rw [Nat.or_comm, Nat.mul_comm d, ← this, Nat.add_comm]
theorem byte_nat (k : Nat) (h : k < 256) : (UInt8.ofNat k).toNat = k := UInt8.toNat_ofNat_of_lt' h
theorem top_le {a m N : Nat} (h : a + m * 128 ^ 9 = N) (hN : N < 18446744073709551616) : m ≤ 1 := by
  have e : (128 : Nat) ^ 9 = 9223372036854775808 := by decide
  rw [e] at h; omega
theorem low_lt {i : Nat} (hi : i ≤ 8) {d : Nat} (hd : d < 128) : d * 128 ^ i < 18446744073709551616 := by
  have h1 : 128 ^ i ≤ 128 ^ 8 := Nat.pow_le_pow_right (by omega) hi
  have h2 : d * 128 ^ i ≤ 127 * 128 ^ 8 := Nat.mul_le_mul (by omega) h1
  have e : 127 * (128 : Nat) ^ 8 = 9151314442816847872 := by decide
  omega
theorem acc_next {a m i N : Nat} (ha : a < 128 ^ i) (h : a + m * 128 ^ i = N) : a + m % 128 * 128 ^ i < 128 ^ (i + 1) ∧ (a + m % 128 * 128 ^ i) + m / 128 * 128 ^ (i + 1) = N := by
  have e : 128 ^ (i + 1) = 128 ^ i * 128 := Nat.pow_succ 128 i
  have h2 : m % 128 < 128 := Nat.mod_lt _ (by omega)
  have h3 : m % 128 * 128 ^ i ≤ 127 * 128 ^ i := Nat.mul_le_mul_right _ (by omega)
  refine ⟨by rw [e]; omega, ?_⟩
  rw [← h, e, Nat.add_assoc]
  congr 1
  have h4 : m = m % 128 + 128 * (m / 128) := (Nat.mod_add_div m 128).symm
  have h5 : m / 128 * (128 ^ i * 128) = 128 * (m / 128) * 128 ^ i := by
    rw [Nat.mul_comm (128 ^ i) 128, ← Nat.mul_assoc, Nat.mul_comm (m / 128) 128]
  rw [h5, ← Nat.add_mul, ← h4]
theorem rd_encF (rest : List UInt8) (N : Nat) (hN : N < 18446744073709551616) : ∀ (f i : Nat) (acc : UInt64) (m : Nat), i + f = 9 → acc.toNat < 128 ^ i → acc.toNat + m * 128 ^ i = N → (0 < i → 0 < m) → rdF i acc (encF f m ++ rest) = (UInt64.ofNat N, rest, 0) := by
  intro f
  induction f with
  | zero =>
    intro i acc m hif ha h hm
    obtain rfl : i = 9 := by omega
    have hm1 := top_le h hN
    have hm2 := hm (by omega)
    obtain rfl : m = 1 := by omega
    show rdF 9 acc (UInt8.ofNat 1 :: rest) = _
    unfold rdF
    have hb : (UInt8.ofNat 1).toNat = 1 := by decide
    rw [hb, if_neg (by omega), if_pos (by omega)]
    have := acc_nat acc (1 % 128) 9 ha (by omega) (by decide) (by omega)
    rw [show acc ||| UInt64.ofNat (1 % 128) <<< UInt64.ofNat (7 * 9) = UInt64.ofNat N from UInt64.toNat_inj.1 (by rw [this, UInt64.toNat_ofNat_of_lt' hN]; exact h)]
  | succ f ih =>
    intro i acc m hif ha h hm
    have hi8 : i ≤ 8 := by omega
    by_cases hs : m < 128
    · rw [encF_small hs]
      show rdF i acc (UInt8.ofNat m :: rest) = _
      unfold rdF
      have hb : (UInt8.ofNat m).toNat = m := byte_nat m (by omega)
      have hd : m % 128 = m := Nat.mod_eq_of_lt hs
      have := acc_nat acc m i ha (by omega) (low_lt hi8 hs) hs
      rw [hb, if_neg (by omega), if_pos hs, hd, show acc ||| UInt64.ofNat m <<< UInt64.ofNat (7 * i) = UInt64.ofNat N from UInt64.toNat_inj.1 (by rw [this, UInt64.toNat_ofNat_of_lt' hN]; exact h)]
    · rw [encF_big (by omega)]
      show rdF i acc (UInt8.ofNat (m % 128 + 128) :: (encF f (m / 128) ++ rest)) = _
      unfold rdF
      have hlt : m % 128 < 128 := Nat.mod_lt _ (by omega)
      have hb : (UInt8.ofNat (m % 128 + 128)).toNat = m % 128 + 128 := byte_nat _ (by omega)
      have hd : (m % 128 + 128) % 128 = m % 128 := by omega
      have h1 := acc_nat acc (m % 128) i ha (by omega) (low_lt hi8 hlt) hlt
      have h2 := acc_next ha h
      rw [hb, if_neg (by omega), if_neg (by omega), hd]
      exact ih (i + 1) _ (m / 128) (by omega) (by rw [h1]; exact h2.1) (by rw [h1]; exact h2.2) (by omega)
theorem rd_enc (n : UInt64) (rest : List UInt8) : rdUint (enc n ++ rest, 0) = (n, (rest, 0)) := by
  unfold rdUint enc
  rw [if_pos rfl]
  have := rd_encF rest n.toNat n.toNat_lt 9 0 0 n.toNat rfl (by decide) (by simp) (by omega)
  rw [this]; simp
theorem rdInt_enc {n : Int} (h1 : -9223372036854775808 ≤ n) (h2 : n ≤ 9223372036854775807) (rest : List UInt8) : rdInt (enc (zz n) ++ rest, 0) = (n, (rest, 0)) := by
  unfold rdInt; rw [rd_enc, uz_zz h1 h2]
theorem rdN_bytes (rest : List UInt8) : ∀ bs : List UInt8, rdN next bs.length (bs ++ rest, 0) = (bs, (rest, 0))
  | [] => rfl
  | b :: bs => by
    have := rdN_bytes rest bs
    show rdN next (bs.length + 1) (b :: (bs ++ rest), 0) = _
    rw [rdN_go next _ rfl]
    show (b :: (rdN next bs.length (bs ++ rest, 0)).1, (rdN next bs.length (bs ++ rest, 0)).2) = _
    rw [this]
theorem rdN_ints (rest : List UInt8) : ∀ l : List Int, (∀ n ∈ l, -9223372036854775808 ≤ n ∧ n ≤ 9223372036854775807) → rdN rdInt l.length (l.flatMap (fun n => enc (zz n)) ++ rest, 0) = (l, (rest, 0))
  | [], _ => rfl
  | n :: l, h => by
    have ih := rdN_ints rest l (fun m hm => h m (List.mem_cons_of_mem _ hm))
    have hn := h n (List.mem_cons_self ..)
    show rdN rdInt (l.length + 1) _ = _
    rw [rdN_go rdInt _ rfl, List.flatMap_cons, List.append_assoc, rdInt_enc hn.1 hn.2]
    show (n :: (rdN rdInt l.length (l.flatMap (fun n => enc (zz n)) ++ rest, 0)).1, (rdN rdInt l.length (l.flatMap (fun n => enc (zz n)) ++ rest, 0)).2) = _
    rw [ih]
theorem rdList_of {α : Type} (f : St → α × St) (most : Int) (k : Nat) (hk : (k : Int) ≤ most) (hk2 : k < 18446744073709551616) (body rest : List UInt8) (l : List α) (h : rdN f k (body ++ rest, 0) = (l, (rest, 0))) :
    rdList f most (enc (UInt64.ofNat k) ++ body ++ rest, 0) = (l, (rest, 0)) := by
  have hu : rdUint (enc (UInt64.ofNat k) ++ body ++ rest, 0) = (UInt64.ofNat k, (body ++ rest, 0)) := by rw [List.append_assoc]; exact rd_enc _ _
  have hlim : lim (enc (UInt64.ofNat k) ++ body ++ rest, 0) most = (body ++ rest, 0) := by
    unfold lim
    rw [hu]
    show (if most < 0 ∨ most < ((UInt64.ofNat k).toNat : Int) then _ else _) = _
    rw [UInt64.toNat_ofNat_of_lt' hk2, if_neg (by omega)]
  unfold rdList
  rw [hlim, hu]
  show (if (rdN f (UInt64.ofNat k).toNat (body ++ rest, 0)).2.2 = 0 then _ else _) = _
  rw [UInt64.toNat_ofNat_of_lt' hk2, h, if_pos rfl]
theorem rdBytes_enc (most : Int) (bs rest : List UInt8) (hk : (bs.length : Int) ≤ most) (hk2 : bs.length < 18446744073709551616) : rdList next most (enc (UInt64.ofNat bs.length) ++ bs ++ rest, 0) = (bs, (rest, 0)) :=
  rdList_of next most bs.length hk hk2 bs rest bs (rdN_bytes rest bs)
theorem rdInts_enc (most : Int) (l : List Int) (rest : List UInt8) (hl : ∀ n ∈ l, -9223372036854775808 ≤ n ∧ n ≤ 9223372036854775807) (hk : (l.length : Int) ≤ most) (hk2 : l.length < 18446744073709551616) :
    rdList rdInt most (enc (UInt64.ofNat l.length) ++ l.flatMap (fun n => enc (zz n)) ++ rest, 0) = (l, (rest, 0)) :=
  rdList_of rdInt most l.length hk hk2 _ rest l (rdN_ints rest l hl)
end V
end Go.Proofs.Ytfanhbemmjcomaa
