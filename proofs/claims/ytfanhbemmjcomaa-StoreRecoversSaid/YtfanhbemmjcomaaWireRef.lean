/- The reference's encoder: Uint, Zigzag, Int, Bytes, Ints. -/
import Derived.Test.YtfanhbemmjcomaaWireLives
import Derived.Test.YtfanhbemmjcomaaWirePlain3
namespace Go.Proofs.Ytfanhbemmjcomaa
open Go.RowKit
set_option linter.unusedVariables false

theorem more_byte2 (m : Nat) : 128 + (m : Int) % 128 = ((UInt8.ofNat (m % 128 + 128)).toNat : Int) := by
  have h2 : (UInt8.ofNat (m % 128 + 128)).toNat = m % 128 + 128 := UInt8.toNat_ofNat_of_lt' (by show _ < 256; omega)
  rw [h2]; omega
set_option maxRecDepth 10000 in
set_option maxHeartbeats 1000000 in
theorem refUint_any (n : UInt64) (w : World) :
    Calls Try.prog 68 #[.int .u64 (n.toNat : Int)] w fun e w' => ∃ v, e = .returned v ∧ w'.ownsRow w.heap.size 5 1 v (V.enc n).length (bv (V.enc n)) ∧ Below w.heap.size w w' := by
  obtain ⟨i0, hi, hz0, hz1, hz2⟩ := info_parts infoByte
  have hn := n.toNat_lt
  have hp := V.pow_start n
  have HE := Lib.hid (show [] ++ V.encF 9 n.toNat = V.enc n from rfl)
  obtain ⟨m0, hm0⟩ : ∃ m, n.toNat = m := ⟨_, rfl⟩
  rw [hm0] at hn hp HE ⊢
  have HN := Lib.hid hn
  have HP := Lib.hid hp
  clear hm0 hn hp
  go_enter Try.func68, Try.ntmps68
  go_wp2
  go_loopw [0, 3] (fun n' v wr => ∃ (m f k : Nat) (l : List UInt8), f ≤ 9 ∧ Hid (m < 18446744073709551616) ∧ Hid (m < 128 ^ (f + 1)) ∧ n' = .int .u64 (m : Int) ∧ Hid (l ++ V.encF f m = V.enc n) ∧ k + f ≤ 9 ∧ wr.ownsRow w.heap.size 5 1 v k (bv l) ∧ Below w.heap.size w wr)
    (fun n' _ _ => (intOf n').toNat)
  case atStart => exact ⟨m0, 9, 0, [], Nat.le_refl _, HN, HP, rfl, HE.out, by omega, World.ownsRow_nil _ _ _ _, Below.refl _ _⟩
  case round =>
    obtain ⟨m, f, k, l, hf, hm, hpw, rfl, hle, hll, hown, hB⟩ := hrel
    have hlo := own_from hown
    have hsz := hB.size
    by_cases hbig : 128 ≤ m
    · cases f with
      | zero => have := V.pow_end hpw.out; omega
      | succ f =>
        have hmb := more_byte2 m
        have hml := hm.out
        obtain ⟨c, hcc⟩ : ∃ c : UInt8, UInt8.ofNat (m % 128 + 128) = c := ⟨_, rfl⟩
        rw [hcc] at hmb
        have HCC := Lib.hid hcc
        clear hcc
        go_wp2_with (at_builtin; refine wpList_append_any _ rfl _ _ 22 rfl w.heap.size 5 i0 (.int .u8 0) 1 1 Try.underlying22 hi hz0 hz1 hz2 rfl (by decide) _ _ _ rfl (hown.alloc _) _ _ 1 1 [.int .u8 (c.toNat : Int)] rfl (Reads.new wr [.int .u8 (c.toNat : Int)] 5 1 rfl) (by simp [Value.oneCell']) (by unfold maxLen; omega) (by omega) (by simp; omega) ?_; intro v' w1 hown' hgrow hat)
        go_roundw
        case rel => exact ⟨m / 128, f, k + 1, l ++ [c], by omega, by have := hm.out; show m / 128 < _; omega, V.pow_step hpw.out, by go_num, by show _ = _; rw [← hle.out, V.encF_big hbig, HCC.out]; simp, by omega, by rw [← bv_snoc]; exact hown', below_appended hown hB.size hgrow |> hB.trans⟩
        case measure => simp [intOf]; omega
    · have hmb : IntKind.u8.wrap (m : Int) = ((UInt8.ofNat m).toNat : Int) := last_byte m
      have hmb2 := last_byte_small m (by omega)
      have HCC := Lib.hid (V.encF_small (f := f) (show m < 128 by omega))
      obtain ⟨c, hcc⟩ : ∃ c : UInt8, UInt8.ofNat m = c := ⟨_, rfl⟩
      rw [hcc] at hmb hmb2 HCC
      clear hcc
      go_wp2_with (at_builtin; refine wpList_append_any _ rfl _ _ 22 rfl w.heap.size 5 i0 (.int .u8 0) 1 1 Try.underlying22 hi hz0 hz1 hz2 rfl (by decide) _ _ _ rfl (hown.alloc _) _ _ 1 1 [.int .u8 (c.toNat : Int)] rfl (by rw [← hmb2]; exact Reads.new wr [.int .u8 (m : Int)] 5 1 rfl) (by simp [Value.oneCell']) (by unfold maxLen; omega) (by omega) (by simp; omega) ?_; intro v' w1 hown' hgrow hat)
      go_ret
      have he : l ++ [c] = V.enc n := by rw [← hle.out, HCC.out]
      have hkl : k = l.length := by have := hown.1; simp [bv] at this; omega
      refine ⟨_, rfl, ?_, below_appended hown hB.size hgrow |> hB.trans⟩
      rw [← he, List.length_append, ← bv_snoc, ← hkl]; exact hown'
end Go.Proofs.Ytfanhbemmjcomaa
