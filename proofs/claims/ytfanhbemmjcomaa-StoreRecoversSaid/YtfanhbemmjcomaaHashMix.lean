/- The mixing step, the program's and the reference's: each returns H.mix of its two arguments, and the world stays. -/
import Derived.Test.YtfanhbemmjcomaaRows
import Derived.Test.YtfanhbemmjcomaaHashNum
import Derived.WalkKit
import Derived.WalkSpells
import Derived.WalkLawsBesides
namespace Go.Proofs.Ytfanhbemmjcomaa
open Go.RowKit

set_option maxHeartbeats 400000 in
theorem mix_any (s v : UInt64) (w : World) :
    Calls Try.prog 54 #[.int .u64 (s.toNat : Int), .int .u64 (v.toNat : Int)] w fun e w' => e = .returned (.int .u64 ((H.mix s v).toNat : Int)) ∧ w = w' := by
  go_enter Try.func54, Try.ntmps54
  go_wp2
  go_ret
  exact ⟨H.ret_u64 (H.mix_form s v), rfl⟩

set_option maxHeartbeats 400000 in
theorem rmix_any (s v : UInt64) (w : World) :
    Calls Try.prog 73 #[.int .u64 (s.toNat : Int), .int .u64 (v.toNat : Int)] w fun e w' => e = .returned (.int .u64 ((H.mix s v).toNat : Int)) ∧ w = w' := by
  go_enter Try.func73, Try.ntmps73
  go_wp2
  go_ret
  exact ⟨H.ret_u64 (by first | exact H.mix_form s v | exact H.mix_form2 s v), rfl⟩

/-! The forms in which callers hand the second word over: a converted int; a length; nought. -/
theorem mix_wrap (s : UInt64) (x : Int) (w : World) :
    Calls Try.prog 54 #[.int .u64 (s.toNat : Int), .int .u64 (IntKind.u64.wrap x)] w fun e w' => e = .returned (.int .u64 ((H.mix s (UInt64.ofInt x)).toNat : Int)) ∧ w = w' := by
  rw [H.wrap_ofInt]; exact mix_any _ _ _
theorem mix_nat (s : UInt64) (n : Nat) (h : n ≤ 2000000) (w : World) :
    Calls Try.prog 54 #[.int .u64 (s.toNat : Int), .int .u64 (n : Int)] w fun e w' => e = .returned (.int .u64 ((H.mix s (UInt64.ofNat n)).toNat : Int)) ∧ w = w' := by
  have : (n : Int) = ((UInt64.ofNat n).toNat : Int) := by rw [H.ofNat_toNat (by omega)]
  rw [this]; exact mix_any _ _ _
theorem mix_zero (s : UInt64) (w : World) :
    Calls Try.prog 54 #[.int .u64 (s.toNat : Int), .int .u64 0] w fun e w' => e = .returned (.int .u64 ((H.mix s 0).toNat : Int)) ∧ w = w' := mix_any s 0 w
theorem rmix_wrap (s : UInt64) (x : Int) (w : World) :
    Calls Try.prog 73 #[.int .u64 (s.toNat : Int), .int .u64 (IntKind.u64.wrap x)] w fun e w' => e = .returned (.int .u64 ((H.mix s (UInt64.ofInt x)).toNat : Int)) ∧ w = w' := by
  rw [H.wrap_ofInt]; exact rmix_any _ _ _
theorem rmix_nat (s : UInt64) (n : Nat) (h : n ≤ 2000000) (w : World) :
    Calls Try.prog 73 #[.int .u64 (s.toNat : Int), .int .u64 (n : Int)] w fun e w' => e = .returned (.int .u64 ((H.mix s (UInt64.ofNat n)).toNat : Int)) ∧ w = w' := by
  have : (n : Int) = ((UInt64.ofNat n).toNat : Int) := by rw [H.ofNat_toNat (by omega)]
  rw [this]; exact rmix_any _ _ _
theorem rmix_zero (s : UInt64) (w : World) :
    Calls Try.prog 73 #[.int .u64 (s.toNat : Int), .int .u64 0] w fun e w' => e = .returned (.int .u64 ((H.mix s 0).toNat : Int)) ∧ w = w' := rmix_any s 0 w
end Go.Proofs.Ytfanhbemmjcomaa
