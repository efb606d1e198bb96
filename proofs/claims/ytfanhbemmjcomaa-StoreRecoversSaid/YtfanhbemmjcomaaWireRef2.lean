/- The reference's encoder: Int, Bytes, Ints, Encode. -/
import Derived.Test.YtfanhbemmjcomaaWireRef
namespace Go.Proofs.Ytfanhbemmjcomaa
open Go.RowKit
set_option linter.unusedVariables false

theorem own_app {W : World} {b k : Nat} {e : TypeId} {v : Value} {l m : List UInt8} (h : W.ownsRow b e 1 v (l.length + k) (bv l ++ bv m)) (hk : m.length = k) : W.ownsRow b e 1 v (l ++ m).length (bv (l ++ m)) := by
  subst hk; rw [List.length_append, bv_app]; exact h
/-- What the own row v holds, v written out. -/
theorem own_out {W : World} {b : Nat} {e : TypeId} {v : Value} {l : List UInt8} (h : W.ownsRow b e 1 v l.length (bv l)) : ∃ A k c, v = .slice A k c ∧ k ≤ c ∧ l.length = k ∧ W.ownsRow b e 1 (.slice A k c) k (bv l) ∧ Reads W W.heap.size 1 A k (bv l) := by
  obtain ⟨A, c, rfl, hc, h1, h2⟩ := own_reads h
  exact ⟨A, _, c, rfl, hc, rfl, h2, h1⟩
theorem refUint_nat (n : Nat) (hn : n ≤ 10000000) (p : Int) (hp : p = (n : Int)) (w : World) :
    Calls Try.prog 68 #[.int .u64 p] w fun e w' => ∃ v, e = .returned v ∧ w'.ownsRow w.heap.size 5 1 v (V.enc (UInt64.ofNat n)).length (bv (V.enc (UInt64.ofNat n))) ∧ Below w.heap.size w w' := by
  have : (n : Int) = ((UInt64.ofNat n).toNat : Int) := by rw [UInt64.toNat_ofNat_of_lt' (by show _ < 18446744073709551616; omega)]
  rw [hp, this]; exact refUint_any _ w

set_option maxRecDepth 10000 in
set_option maxHeartbeats 1000000 in
theorem refBytes_any (A : Option Addr) (len cap : Nat) (bs : List UInt8) (hbl : bs.length = len) (hl : len ≤ 1000000) (w : World) (hr : Reads w w.heap.size 1 A len (bv bs)) :
    Calls Try.prog 69 #[.slice A len cap] w fun e w' => ∃ v, e = .returned v ∧ w'.ownsRow w.heap.size 5 1 v (V.enc (UInt64.ofNat len) ++ bs).length (bv (V.enc (UInt64.ofNat len) ++ bs)) ∧ Below w.heap.size w w' := by
  obtain ⟨i0, hi, hz0, hz1, hz2⟩ := info_parts infoByte
  have HL := Lib.hid hbl
  clear hbl
  have hone := bv_one bs
  obtain ⟨E, hE⟩ : ∃ E, V.enc (UInt64.ofNat len) = E := ⟨_, rfl⟩
  have hEl : E.length ≤ 10 := by rw [← hE]; exact (V.enc_len _).2
  have hu := fun W => refUint_nat len (by omega) len rfl W
  simp only [hE] at hu
  rw [hE]
  clear hE
  go_enter Try.func69, Try.ntmps69
  go_wp2_with fail
  refine (hu _).mono ?_
  rintro e w1 ⟨v, rfl, hown, hb⟩
  clear hu
  have hsz := hb.size
  have hr1 := hr.later hb
  obtain ⟨A1, k1, c1, rfl, hc1, hk1, hown1, _⟩ := own_out hown
  have HK1 := Lib.hid hk1
  have hk1' : k1 ≤ 10 := by omega
  clear hk1 hown
  go_wp2_with (at_builtin; refine wpList_append_any _ rfl _ _ 22 rfl w.heap.size 5 i0 (.int .u8 0) 1 1 Try.underlying22 hi hz0 hz1 hz2 rfl (by decide) _ _ _ rfl hown1 w1.heap.size A len cap (bv bs) rfl hr1 hone (by unfold maxLen; omega) (by omega) (by omega) ?_; intro v' w2 hown' hgrow hat)
  go_ret
  refine ⟨_, rfl, own_app (by rw [HK1.out]; exact hown') HL.out, hb.grown hgrow hsz (fun k e => (own_from hown1 k e).1)⟩

end Go.Proofs.Ytfanhbemmjcomaa
