/- Plain facts on varints and zigzag numbers. No program in sight. -/
namespace Go.Proofs.Ytfanhbemmjcomaa
namespace V

/-- The varint of n, in at most f + 1 bytes. -/
def encF : Nat → Nat → List UInt8
  | 0, n => [UInt8.ofNat n]
  | f + 1, n => if n < 128 then [UInt8.ofNat n] else UInt8.ofNat (n % 128 + 128) :: encF f (n / 128)
def enc (n : UInt64) : List UInt8 := encF 9 n.toNat
theorem encF_len : ∀ (f n : Nat), 1 ≤ (encF f n).length ∧ (encF f n).length ≤ f + 1
  | 0, n => by simp [encF]
  | f + 1, n => by
    have := encF_len f (n / 128)
    unfold encF
    split
    · simp
    · simp only [List.length_cons]; omega
theorem enc_len (n : UInt64) : 1 ≤ (enc n).length ∧ (enc n).length ≤ 10 := encF_len 9 _
theorem encF_small {f n : Nat} (h : n < 128) : encF f n = [UInt8.ofNat n] := by
  cases f with
  | zero => rfl
  | succ f => rw [encF, if_pos h]
theorem encF_big {f n : Nat} (h : 128 ≤ n) : encF (f + 1) n = UInt8.ofNat (n % 128 + 128) :: encF f (n / 128) := by
  rw [encF, if_neg (by omega)]
theorem pow_start (n : UInt64) : n.toNat < 128 ^ (9 + 1) := by
  have := n.toNat_lt
  have h : (128 : Nat) ^ (9 + 1) = 1180591620717411303424 := by decide
  omega
theorem pow_step {m f : Nat} (h : m < 128 ^ (f + 1 + 1)) : m / 128 < 128 ^ (f + 1) := by
  rw [Nat.pow_succ] at h
  exact Nat.div_lt_of_lt_mul (by omega)
theorem pow_end {m : Nat} (h : m < 128 ^ (0 + 1)) : m < 128 := by simpa using h

/-- The zigzag number of n. -/
def zzN (n : Int) : Nat := if 0 ≤ n then (2 * n).toNat else (-(2 * n) - 1).toNat
def zz (n : Int) : UInt64 := UInt64.ofNat (zzN n)
def uz (z : UInt64) : Int := if z.toNat % 2 = 0 then ((z.toNat / 2 : Nat) : Int) else -((z.toNat / 2 : Nat) : Int) - 1
theorem zzN_lt {n : Int} (h1 : -9223372036854775808 ≤ n) (h2 : n ≤ 9223372036854775807) : zzN n < 18446744073709551616 := by
  unfold zzN; split <;> omega
theorem zz_toNat {n : Int} (h1 : -9223372036854775808 ≤ n) (h2 : n ≤ 9223372036854775807) : (zz n).toNat = zzN n :=
  UInt64.toNat_ofNat_of_lt' (zzN_lt h1 h2)
theorem uz_zz {n : Int} (h1 : -9223372036854775808 ≤ n) (h2 : n ≤ 9223372036854775807) : uz (zz n) = n := by
  unfold uz
  rw [zz_toNat h1 h2]
  unfold zzN
  split <;> split <;> omega
theorem uz_bd (z : UInt64) : -9223372036854775808 ≤ uz z ∧ uz z ≤ 9223372036854775807 := by
  have := z.toNat_lt
  unfold uz
  split <;> omega
theorem zz_uz (z : UInt64) : zz (uz z) = z := by
  have hb := uz_bd z
  apply UInt64.toNat_inj.1
  rw [zz_toNat hb.1 hb.2]
  unfold zzN uz
  split <;> split <;> omega

/-- A reader's state: the bytes that are left, and the error (0: none). -/
abbrev St := List UInt8 × Int
def fail (s : St) (e : Int) : St := if s.2 = 0 then (s.1, e) else s

/-- Reading a varint from byte i on, n having been read. -/
def rdF (i : Nat) (n : UInt64) : List UInt8 → UInt64 × St
  | [] => (0, [], 7)
  | c :: bs =>
    if (i = 9 ∧ 1 < c.toNat) ∨ (0 < i ∧ c.toNat = 0) then (0, bs, 8)
    else if c.toNat < 128 then (n ||| UInt64.ofNat (c.toNat % 128) <<< UInt64.ofNat (7 * i), bs, 0)
    else rdF (i + 1) (n ||| UInt64.ofNat (c.toNat % 128) <<< UInt64.ofNat (7 * i)) bs
def rdUint (s : St) : UInt64 × St := if s.2 = 0 then rdF 0 0 s.1 else (0, s)
def rdInt (s : St) : Int × St := (uz (rdUint s).1, (rdUint s).2)
def next (s : St) : UInt8 × St :=
  match s with
  | ([], e) => (0, [], if e = 0 then 7 else e)
  | (c :: bs, e) => if e = 0 then (c, bs, 0) else (0, c :: bs, e)
end V
end Go.Proofs.Ytfanhbemmjcomaa
