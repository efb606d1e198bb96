/- uint64 and zigzag arithmetic in the walk's spelling. No program in sight. -/
import Derived.Test.YtfanhbemmjcomaaWirePlain
import Derived.WalkKit
import Derived.Laws.Bits64
import Derived.Laws.BitsAllLaws
import Derived.WalkLawsBesides
namespace Go.Proofs.Ytfanhbemmjcomaa
open Go.RowKit
namespace V
theorem bits_xor_u64_ones (a : Nat) (h : a < 18446744073709551616) : bits .xor .u64 (a : Int) 18446744073709551615 = ((18446744073709551615 - a : Nat) : Int) := by
  show IntKind.u64.wrap ((BitVec.ofInt 64 (a : Int) ^^^ BitVec.ofInt 64 18446744073709551615).toNat : Int) = _
  have e : BitVec.ofInt 64 18446744073709551615 = BitVec.allOnes 64 := by decide
  rw [e, BitVec.xor_allOnes, BitVec.toNat_not]
  have h1 : (BitVec.ofInt 64 (a : Int)).toNat = a := by
    rw [BitVec.ofInt_natCast, BitVec.toNat_ofNat]; exact Nat.mod_eq_of_lt (by omega)
  rw [h1, IntKind.wrap_u64]
  omega
theorem bits_xor_u64_zero (a : Nat) (h : a < 18446744073709551616) : bits .xor .u64 (a : Int) 0 = (a : Int) := by
  have := bits_xor_u64_nat a 0 h (by omega)
  simpa using this
theorem bits_xor_i64_ones (a : Nat) (h : a < 9223372036854775808) : bits .xor .i64 (a : Int) (-1) = -(a : Int) - 1 := by
  show IntKind.i64.wrap ((BitVec.ofInt 64 (a : Int) ^^^ BitVec.ofInt 64 (-1)).toNat : Int) = _
  have e : BitVec.ofInt 64 (-1) = BitVec.allOnes 64 := by decide
  rw [e, BitVec.xor_allOnes, BitVec.toNat_not]
  have h1 : (BitVec.ofInt 64 (a : Int)).toNat = a := by
    rw [BitVec.ofInt_natCast, BitVec.toNat_ofNat]; exact Nat.mod_eq_of_lt (by omega)
  rw [h1, IntKind.wrap_i64]
  omega
theorem bits_xor_i64_zero (a : Nat) (h : a < 9223372036854775808) : bits .xor .i64 (a : Int) 0 = (a : Int) := by
  show IntKind.i64.wrap ((BitVec.ofInt 64 (a : Int) ^^^ BitVec.ofInt 64 0).toNat : Int) = _
  have e : BitVec.ofInt 64 0 = 0#64 := by decide
  rw [e, BitVec.xor_zero]
  have h1 : (BitVec.ofInt 64 (a : Int)).toNat = a := by
    rw [BitVec.ofInt_natCast, BitVec.toNat_ofNat]; exact Nat.mod_eq_of_lt (by omega)
  rw [h1, IntKind.wrap_i64]
  omega

theorem zz_form (n : Int) (h1 : -9223372036854775808 ≤ n) (h2 : n ≤ 9223372036854775807) :
    bits BinOp.xor IntKind.u64 (IntKind.u64.wrap (IntKind.u64.wrap n * 2)) (IntKind.u64.wrap (n / 9223372036854775808)) = ((zz n).toNat : Int) := by
  rw [zz_toNat h1 h2]
  by_cases h : 0 ≤ n
  · have e1 : n / 9223372036854775808 = 0 := by omega
    have e2 : IntKind.u64.wrap (IntKind.u64.wrap n * 2) = (((2 * n).toNat : Nat) : Int) := by
      rw [IntKind.wrap_u64, IntKind.wrap_u64]; omega
    rw [e1, e2, show IntKind.u64.wrap 0 = 0 from by rw [IntKind.wrap_u64]; rfl, bits_xor_u64_zero _ (by omega), zzN, if_pos h]
  · have e1 : n / 9223372036854775808 = -1 := by omega
    have e2 : IntKind.u64.wrap (IntKind.u64.wrap n * 2) = (((2 * n + 18446744073709551616).toNat : Nat) : Int) := by
      rw [IntKind.wrap_u64, IntKind.wrap_u64]; omega
    rw [e1, e2, show IntKind.u64.wrap (-1) = 18446744073709551615 from by rw [IntKind.wrap_u64]; rfl, bits_xor_u64_ones _ (by omega), zzN, if_neg h]
    omega
theorem uz_form (z : UInt64) :
    bits BinOp.xor IntKind.i64 (wrap64 ((z.toNat : Int) / 2)) (wrap64 (-wrap64 (bits BinOp.and IntKind.u64 (z.toNat : Int) 1))) = uz z := by
  have hz := z.toNat_lt
  have e0 : bits BinOp.and IntKind.u64 (z.toNat : Int) 1 = (z.toNat : Int) % 2 := and_one_u64 _ (by omega) (by omega)
  have e1 : wrap64 ((z.toNat : Int) / 2) = ((z.toNat / 2 : Nat) : Int) := by unfold wrap64; omega
  rw [e0, e1]
  unfold uz
  by_cases h : z.toNat % 2 = 0
  · have e2 : wrap64 (-wrap64 ((z.toNat : Int) % 2)) = 0 := by unfold wrap64; omega
    rw [e2, bits_xor_i64_zero _ (by omega), if_pos h]
  · have e2 : wrap64 (-wrap64 ((z.toNat : Int) % 2)) = -1 := by unfold wrap64; omega
    rw [e2, bits_xor_i64_ones _ (by omega), if_neg h]
end V
end Go.Proofs.Ytfanhbemmjcomaa
