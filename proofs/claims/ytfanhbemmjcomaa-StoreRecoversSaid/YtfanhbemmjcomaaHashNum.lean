/- uint64 arithmetic in the walk's spelling, said over UInt64. No program in sight. -/
import Derived.Test.YtfanhbemmjcomaaHashPlain
import Derived.WalkKit
import Derived.Laws.Bits64
import Derived.Laws.BitsAllLaws
namespace Go.Proofs.Ytfanhbemmjcomaa
open Go.RowKit
namespace H

/-- A uint64 as the model holds it. -/
def uv (s : UInt64) : Value := .int .u64 (s.toNat : Int)

theorem u64_lt (s : UInt64) : s.toNat < 18446744073709551616 := s.toNat_lt
theorem bxor (a b : UInt64) : bits .xor .u64 (a.toNat : Int) (b.toNat : Int) = ((a ^^^ b).toNat : Int) := by
  rw [u64_xor_nat _ _ (u64_lt a) (u64_lt b), UInt64.toNat_xor]
theorem bor (a b : UInt64) : bits .or .u64 (a.toNat : Int) (b.toNat : Int) = ((a ||| b).toNat : Int) := by
  rw [u64_or_nat _ _ (u64_lt a) (u64_lt b), UInt64.toNat_or]
theorem wmulC (a : UInt64) : IntKind.u64.wrap ((a.toNat : Int) * 11400714819323198485) = ((a * C).toNat : Int) := by
  rw [IntKind.wrap_u64, UInt64.toNat_mul]
  have : C.toNat = 11400714819323198485 := rfl
  rw [this]
  omega
theorem shr32 (a : UInt64) : (a.toNat : Int) / (4294967296 : Int) = ((a >>> 32).toNat : Int) := by
  rw [UInt64.toNat_shiftRight]
  have : (32 : UInt64).toNat % 64 = 32 := rfl
  rw [this, Nat.shiftRight_eq_div_pow]
  omega
theorem mix_form (s v : UInt64) : bits BinOp.xor IntKind.u64 (IntKind.u64.wrap (bits BinOp.xor IntKind.u64 ↑s.toNat ↑v.toNat * 11400714819323198485)) (IntKind.u64.wrap (bits BinOp.xor IntKind.u64 ↑s.toNat ↑v.toNat * 11400714819323198485) / 4294967296) = ((mix s v).toNat : Int) := by
  rw [bxor, wmulC, shr32, bxor]
  rfl
theorem mix_form2 (s v : UInt64) : bits BinOp.xor IntKind.u64 (IntKind.u64.wrap (bits BinOp.xor IntKind.u64 ↑s.toNat ↑v.toNat * 11400714819323198485)) (IntKind.u64.wrap ((IntKind.u64.wrap (bits BinOp.xor IntKind.u64 ↑s.toNat ↑v.toNat * 11400714819323198485)).tdiv 4294967296)) = ((mix s v).toNat : Int) := by
  have h : IntKind.u64.wrap ((IntKind.u64.wrap (bits BinOp.xor IntKind.u64 ↑s.toNat ↑v.toNat * 11400714819323198485)).tdiv 4294967296) = IntKind.u64.wrap (bits BinOp.xor IntKind.u64 ↑s.toNat ↑v.toNat * 11400714819323198485) / 4294967296 := by
    rw [bxor, wmulC]
    have := u64_lt ((s ^^^ v) * C)
    exact IntWalk.u64_quo _ _ (by omega)
  rw [h, mix_form]
/-- int to uint64. -/
theorem wrap_ofInt (n : Int) : IntKind.u64.wrap n = ((UInt64.ofInt n).toNat : Int) := by
  have h0 : 0 ≤ n % 18446744073709551616 := Int.emod_nonneg _ (by omega)
  have h1 : n % 18446744073709551616 < 18446744073709551616 := Int.emod_lt_of_pos _ (by omega)
  have e : UInt64.ofInt n = UInt64.ofNat (n % 18446744073709551616).toNat := rfl
  rw [IntKind.wrap_u64, e, UInt64.toNat_ofNat_of_lt' (by show _ < 18446744073709551616; omega)]
  omega
theorem ofNat_toNat {n : Nat} (h : n < 18446744073709551616) : (UInt64.ofNat n).toNat = n := UInt64.toNat_ofNat_of_lt' h
theorem toNat_pw (l : List UInt8) (k j : Nat) : (pw l k j).toNat = leN ((grp l k).take j) := by
  have h := leN_lt ((grp l k).take j)
  have h2 : ((grp l k).take j).length ≤ 8 := by rw [List.length_take, grp_len]; omega
  have h3 : 256 ^ ((grp l k).take j).length ≤ 256 ^ 8 := Nat.pow_le_pow_right (by omega) h2
  have : (256 : Nat) ^ 8 = 18446744073709551616 := by decide
  exact ofNat_toNat (by omega)
theorem pw_zero (l : List UInt8) (k : Nat) : pw l k 0 = 0 := rfl
theorem pw_all {l : List UInt8} {k j : Nat} (h : j = 8 ∨ l.length ≤ 8 * k + j) : pw l k j = word l k := by
  unfold pw word
  rw [List.take_of_length_le (by rw [grp_len]; omega)]
theorem grp_take {l : List UInt8} {k j : Nat} {c : UInt8} (hj : j < 8) (hc : l[8 * k + j]? = some c) : (grp l k).take (j + 1) = (grp l k).take j ++ [c] := by
  have : (grp l k)[j]? = some c := by rw [grp, List.getElem?_take_of_lt hj, List.getElem?_drop]; exact hc
  rw [List.take_add_one, this]; rfl
theorem pw_step {l : List UInt8} {k j : Nat} {c : UInt8} (hj : j < 8) (hc : l[8 * k + j]? = some c) :
    bits BinOp.or IntKind.u64 ((pw l k j).toNat : Int) (IntKind.u64.wrap (IntKind.u64.wrap (c.toNat : Int) * 2 ^ (8 * j))) = ((pw l k (j + 1)).toNat : Int) := by
  have hcl := c.toNat_lt
  have hl : 8 * k + j < l.length := (List.getElem?_eq_some_iff.1 hc).1
  have hlen : ((grp l k).take j).length = j := by rw [List.length_take, grp_len]; omega
  have hlt := leN_lt ((grp l k).take j)
  rw [hlen] at hlt
  have hp : (256 : Nat) ^ j = 2 ^ (8 * j) := by rw [Nat.pow_mul]
  have hj8 : 2 ^ (8 * j) ≤ 2 ^ 56 := Nat.pow_le_pow_right (by omega) (by omega)
  have hc2 : c.toNat * 2 ^ (8 * j) < 18446744073709551616 := by
    have : c.toNat * 2 ^ (8 * j) ≤ 255 * 2 ^ 56 := Nat.mul_le_mul (by omega) hj8
    omega
  have e1 : IntKind.u64.wrap (IntKind.u64.wrap (c.toNat : Int) * 2 ^ (8 * j)) = ((c.toNat * 2 ^ (8 * j) : Nat) : Int) := by
    rw [IntWalk.u64_in (c.toNat : Int) (by omega)]
    have : (2 : Int) ^ (8 * j) = ((2 ^ (8 * j) : Nat) : Int) := by simp
    rw [this, ← Int.natCast_mul]
    exact IntWalk.u64_in _ (by omega)
  rw [e1, u64_or_nat _ _ (u64_lt _) hc2, toNat_pw, toNat_pw, grp_take hj hc, leN_snoc, hlen, hp]
  have := Nat.shiftLeft_add_eq_or_of_lt (b := leN ((grp l k).take j)) (i := 8 * j) (by rw [← hp]; exact hlt) c.toNat
  rw [Nat.or_comm, ← Nat.shiftLeft_eq, ← this, Nat.add_comm]
theorem words_take (l : List UInt8) (k : Nat) (hk : k ≤ nw l) : (List.range k).map (word l) <+: words l := by
  unfold words
  have : List.range (nw l) = List.range k ++ (List.range (nw l - k)).map (k + ·) := by
    rw [← List.range_add, Nat.add_sub_cancel' hk]
  rw [this, List.map_append]
  exact List.prefix_append _ _
theorem words_succ (l : List UInt8) (k : Nat) : (List.range (k + 1)).map (word l) = (List.range k).map (word l) ++ [word l k] := by simp [List.range_succ]
theorem str_at (s : ByteArray) (i : Nat) (h : i < s.size) : s.data.toList[i]? = some s[i] := by
  have h' : i < s.data.toList.length := by simpa using h
  rw [List.getElem?_eq_getElem h']; rfl
theorem str_len (s : ByteArray) : s.data.toList.length = s.size := by simp
theorem ret_u64 {a b : Int} (h : a = b) : Ending.returned (.int .u64 a) = .returned (.int .u64 b) := by rw [h]
end H
end Go.Proofs.Ytfanhbemmjcomaa
