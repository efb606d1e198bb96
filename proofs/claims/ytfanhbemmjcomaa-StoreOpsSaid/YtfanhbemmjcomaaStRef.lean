/- The reference's Frame and Payload. -/
import Derived.Test.YtfanhbemmjcomaaStDo
namespace Go.Proofs.Ytfanhbemmjcomaa
open Go.RowKit
set_option linter.unusedVariables false

theorem S.le8_next (x : UInt64) (k m : Nat) (hm : m = x.toNat / 256 ^ k) : m / 256 = x.toNat / 256 ^ (k + 1) := by
  rw [hm, Nat.div_div_eq_div_mul, Nat.pow_succ]
set_option maxRecDepth 10000 in
set_option maxHeartbeats 1000000 in
theorem refFrame_any (A : Option Addr) (len cap n : Nat) (bs : List UInt8) (hl : bs.length = len) (hlen : len ≤ 500000) (hn : (S.frame bs).length = n) (w : World) (hr : Reads w w.heap.size 1 A len (bv bs)) :
    Calls Try.prog 55 #[.slice A len cap] w fun e w' => ∃ A' c', e = .returned (.slice A' n c') ∧ n ≤ c' ∧ w'.ownsRow w.heap.size 5 1 (.slice A' n c') n (bv (S.frame bs)) ∧ Below w.heap.size w w' := by
  obtain ⟨i0, hi, hz0, hz1, hz2⟩ := info_parts infoByte
  have HL := Lib.hid hl
  have hu := fun W => refUint_any (UInt64.ofNat len) W
  have e64 : (UInt64.ofNat len).toNat = len := UInt64.toNat_ofNat_of_lt' (by show _ < 18446744073709551616; omega)
  rw [e64] at hu
  obtain ⟨E, hE⟩ : ∃ E, V.enc (UInt64.ofNat len) = E := ⟨_, rfl⟩
  have hEl : E.length ≤ 10 := by rw [← hE]; exact (V.enc_len _).2
  obtain ⟨ke, hke⟩ : ∃ k, E.length = k := ⟨_, rfl⟩
  simp only [hE, hke] at hu
  rw [hke] at hEl
  have hh := fun W h => rbytes_any ⟨#[102, 114, 97, 109, 101]⟩ (by decide) A len cap bs hl (by omega) W h
  have hh : ∀ W, Reads W W.heap.size 1 A len (bv bs) → Calls Try.prog 50 #[.string ⟨#[102, 114, 97, 109, 101]⟩, .slice A len cap] W fun e W' => e = .returned (.int .u64 ((S.crc bs).toNat : Int)) ∧ Below W.heap.size W W' := hh
  obtain ⟨x, hx⟩ : ∃ x, S.crc bs = x := ⟨_, rfl⟩
  rw [hx] at hh
  have hfr : S.frame bs = E ++ S.le8 x ++ bs := by unfold S.frame; rw [hl, hE, hx]
  have hnl : n = ke + 8 + len := by rw [← hn, hfr]; simp [S.le8_len, hl, hke]; omega
  have HFR := Lib.hid hfr
  have HH := Lib.hid hh
  have HU := Lib.hid hu
  have hlw : IntKind.u64.wrap (len : Int) = (len : Int) := by rw [IntKind.wrap_u64]; omega
  clear hn hfr hx hke hE hl hh hu e64
  subst hnl
  go_enter Try.func55, Try.ntmps55
  go_wp2_with fail
  refine (HU.out _).mono ?_
  rintro e w1 ⟨v1, rfl, hown1, hd1⟩
  have hr1 := hr.later hd1
  clear HU
  go_wp2_with fail
  refine (HH.out _ hr1).mono ?_
  rintro e w2 ⟨rfl, hd2⟩
  have hown2 := own_below hown1 hd2
  have hb2 := blater hd1 (Nat.le_refl _) hd2
  have hsz := hb2.size
  have hx64 := x.toNat_lt
  clear HH hown1 hd1 hd2
  go_wp2_with fail
  go_loopw [3, 4, 5] (fun v s i wr => ∃ k m : Nat, k ≤ 8 ∧ i = .int .i64 (k : Int) ∧ s = .int .u64 (m : Int) ∧ m < 18446744073709551616 ∧ Hid (m = x.toNat / 256 ^ k) ∧ wr.ownsRow w.heap.size 5 1 v (ke + k) (bv (E ++ (S.le8 x).take k)) ∧ Below w.heap.size w wr) (fun _ _ i _ => 8 - (intOf i).toNat)
  case atStart => exact ⟨0, x.toNat, Nat.zero_le _, rfl, rfl, hx64, Lib.hid (by simp), by simpa using hown2, hb2⟩
  case round =>
    obtain ⟨k, m, hk, rfl, rfl, hm, HM, hown, hb⟩ := hrel
    by_cases hlt : k < 8
    · have hi2 : (k : Int) < 8 := by omega
      have hi1 : (0 : Int) ≤ (k : Int) := by omega
      have hcm : UInt8.ofNat m = UInt8.ofNat (x.toNat / 256 ^ k) := by rw [← HM.out]
      have hsh : (m : Int) % 256 = ((UInt8.ofNat m).toNat : Int) := by simp
      have htk := S.le8_take x k hlt
      rw [← hcm] at htk
      obtain ⟨c, hc⟩ : ∃ c, UInt8.ofNat m = c := ⟨_, rfl⟩
      rw [hc] at hsh htk
      have hsh2 : (m : Int) % 256 % 256 = (c.toNat : Int) := by omega
      have hq : (m : Int) / 256 = ((m / 256 : Nat) : Int) := by omega
      have HN := Lib.hid (S.le8_next x k m HM.out)
      have HTK := Lib.hid htk
      have hs2 := hb.size
      obtain ⟨m', hm'⟩ : ∃ m', m / 256 = m' := ⟨_, rfl⟩
      have hm2 : m' < 18446744073709551616 := by omega
      rw [hm'] at hq HN
      clear hc htk hcm HM hm'
      go_wp2_with (at_builtin; refine wpList_append_any _ rfl _ _ 22 rfl w.heap.size 5 i0 (.int .u8 0) 1 1 Try.underlying22 hi hz0 hz1 hz2 rfl (by decide) _ _ _ rfl (hown.alloc _) _ _ 1 1 [.int .u8 (c.toNat : Int)] rfl (Reads.new wr [.int .u8 (c.toNat : Int)] 5 1 rfl) (by simp [Value.oneCell']) (by unfold maxLen; omega) (by omega) (by simp; omega) ?_; intro v' w2 hown' hgrow hat)
      go_roundw
      case rel => exact ⟨k + 1, m', by omega, by go_num, by first | rfl | go_num, hm2, HN, by rw [HTK.out, ← List.append_assoc, ← bv_snoc]; exact hown', (hb.alloc hb.size _).grown hgrow (by simp; omega) (fun k e => (own_from hown k e).1)⟩
      case measure => simp [intOf]; omega
    · have hk8 : k = 8 := by omega
      subst hk8
      rw [List.take_of_length_le (by rw [S.le8_len]; exact Nat.le_refl _)] at hown
      have hs2 := hb.size
      have hrb := hr.below hb
      go_wp2_with (at_builtin; refine wpList_append_any _ rfl _ _ 22 rfl w.heap.size 5 i0 (.int .u8 0) 1 1 Try.underlying22 hi hz0 hz1 hz2 rfl (by decide) _ _ _ rfl hown _ A len cap (bv bs) rfl hrb (bv_one bs) (by unfold maxLen; omega) (by omega) hs2 ?_; intro v' w2 hown' hgrow hat)
      have hb9 := hb.grown hgrow hs2 (fun k e => (own_from hown k e).1)
      rw [show bv (E ++ S.le8 x) ++ bv bs = bv (S.frame bs) by rw [HFR.out]; simp [bv]] at hown'
      obtain ⟨A', c', rfl, hc', _, h'⟩ := own_reads hown'
      go_wp2_with fail
      go_ret
      exact ⟨A', c', rfl, hc', h', hb9⟩
end Go.Proofs.Ytfanhbemmjcomaa
