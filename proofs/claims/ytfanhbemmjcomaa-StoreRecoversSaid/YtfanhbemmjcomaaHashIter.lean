/- The iterator over the words of a string, and of a byte slice: what it yields, for every loop body. -/
import Derived.RangeFuncNested
import Derived.RangeFuncBound
import Derived.RangeFuncCalls
import Derived.RangeFuncLeaves
import Derived.RangeFuncBox
import Derived.Shelf.Abstract
import Derived.Shelf.RegionOpen
import Derived.WalkKit
import Derived.OwnWalkIn
import Derived.TacticsInMore
import Derived.LoopNIn
import Derived.LoopIn
import Derived.Lib.Hide
import Derived.Test.YtfanhbemmjcomaaHashMix
import Derived.Test.YtfanhbemmjcomaaRef01
namespace Go.Proofs.Ytfanhbemmjcomaa
open Go.RowKit Go.Shelf
attribute [local go_sem] Oper.semAt_some

/-- What a round keeps: what lies below n₀, and the iterator's own box. -/
def KeepB (n₀ Bs : Nat) (W W' : World) : Prop := Below n₀ W W' ∧ ∀ p : Addr, p.block = Bs → W'.cell? p = W.cell? p

set_option maxRecDepth 100000 in
set_option maxHeartbeats 1000000 in
theorem wordsS1_in (F : Fence) (n : Nat) (hF : F.fn 67) (hro : F.round = none) (hn : 1 ≤ n) (l Bs n₀ : Nat) (s : ByteArray) (hs : s.size ≤ 1000000) (J Jx : List UInt64 → World → Prop)
    (hY : ∀ pre x W, J pre W → pre.length < H.nw s.data.toList → YieldAt F (n - 1) Try.prog l #[.int .u64 (x.toNat : Int)] W fun e W' =>
      (e = .returned (.bool true) ∧ J (pre ++ [x]) W' ∧ KeepB n₀ Bs W W') ∨ (e = .returned (.bool false) ∧ Jx (pre ++ [x]) W'))
    (W : World) (hBs : W.cell? ⟨Bs, 0, none⟩ = some (.string s)) (h0 : J [] W) :
    CallsIn F n Try.prog 67 #[.func (.yield l) #[] #[], .pointer (some ⟨Bs, 0, none⟩)] W fun e W' => (∃ v, e = .returned v) ∧
      ((∃ ys, ys = H.words s.data.toList ∧ J ys W') ∨ (∃ pre, pre <+: H.words s.data.toList ∧ Jx pre W')) := by
  refine callsIn_of_wp Try.func67 rfl hF ?_ hro
  simp only [Try.ntmps67, List.size_toArray, List.length_cons, List.length_nil, Nat.reduceAdd, Nat.reduceSub, Array.replicate_succ, Array.replicate_zero, List.push_toArray, List.append_toArray, List.nil_append, List.cons_append]
  gi_wp2
  gi_loopw [3] (fun i wr => ∃ k : Nat, k ≤ H.nw s.data.toList ∧ i = .int .i64 (8 * (k : Int)) ∧ J ((List.range k).map (H.word s.data.toList)) wr ∧ wr.cell? ⟨Bs, 0, none⟩ = some (.string s))
    (fun i _ => H.nw s.data.toList * 8 - (intOf i).toNat)
  case atStart => exact ⟨0, Nat.zero_le _, rfl, h0, hBs⟩
  case round =>
    obtain ⟨k, hk, rfl, hJs, hb⟩ := hrel
    have hsl := H.str_len s
    by_cases hlt : 8 * k < s.size
    · have hlt2 : (8 * (k : Int)) < (s.size : Int) := by omega
      have hkn : k < H.nw s.data.toList := by unfold H.nw; omega
      clear hsl
      gi_wp2
      obtain ⟨wo, rfl⟩ : ∃ wo : World, wo = wr := ⟨_, rfl⟩
      gi_loop [4, 5] (fun v i => ∃ j : Nat, j ≤ 8 ∧ 8 * k + j ≤ s.size ∧ i = .int .i64 (8 * (k : Int) + (j : Int)) ∧ v = .int .u64 ((H.pw s.data.toList k j).toNat : Int)) (fun _ i => s.size - (intOf i).toNat)
      case atStart => exact ⟨0, by omega, by omega, by go_num, rfl⟩
      case round =>
        obtain ⟨j, hj8, hjs, rfl, rfl⟩ := hrel
        by_cases hin : j < 8 ∧ 8 * k + j < s.size
        · obtain ⟨h1, h2⟩ := hin
          gi_wp2
          all_goals
            go_round
            case rel => exact ⟨j + 1, by omega, by omega, by go_num, by rw [H.pw_step h1 (H.str_at s _ h2)]⟩
            case measure => simp [intOf]; omega
        · have hY' := hY _ (H.pw s.data.toList k j) wo hJs (by simpa using hkn)
          have hall : 8 ≤ j ∨ s.size ≤ 8 * k + j := by omega
          obtain ⟨fn, tmps, assign, body, hy, hR⟩ := hY'
          clear hin
          gi_wp2
          all_goals
            refine hR.mono ?_
            rintro e W3 (⟨rfl, hJ3, hk3⟩ | ⟨rfl, hJx3⟩)
            · gi_wp2
              go_roundw
              case rel => exact ⟨k + 1, hkn, by go_num, by rw [H.words_succ, ← H.pw_all (l := s.data.toList) (k := k) (j := j) (by rw [H.str_len]; omega)]; exact hJ3, (hk3.2 ⟨Bs, 0, none⟩ rfl).trans hb⟩
              case measure => simp [intOf]; omega
            · gi_wp2
              refine bodyPost_ret (results_none rfl _ _ _) rfl ?_
              exact ⟨⟨_, rfl⟩, .inr ⟨_, by rw [H.pw_all (l := s.data.toList) (k := k) (j := j) (by rw [H.str_len]; omega), ← H.words_succ]; exact H.words_take _ _ hkn, hJx3⟩⟩
    · have hkn : k = H.nw s.data.toList := by unfold H.nw at hk ⊢; omega
      clear hsl
      gi_wp2
      go_end0
      exact ⟨⟨_, rfl⟩, .inl ⟨_, by rw [hkn]; rfl, hJs⟩⟩


set_option maxRecDepth 100000 in
set_option maxHeartbeats 1000000 in
theorem wordsB1_in (F : Fence) (n : Nat) (hF : F.fn 52) (hro : F.round = none) (hn : 1 ≤ n) (l Bs n₀ : Nat) (A : Option Addr) (len cap : Nat) (bs : List UInt8) (hlen : bs.length = len) (hs : len ≤ 1000000) (J Jx : List UInt64 → World → Prop)
    (hY : ∀ pre x W, J pre W → pre.length < H.nw bs → YieldAt F (n - 1) Try.prog l #[.int .u64 (x.toNat : Int)] W fun e W' =>
      (e = .returned (.bool true) ∧ J (pre ++ [x]) W' ∧ KeepB n₀ Bs W W') ∨ (e = .returned (.bool false) ∧ Jx (pre ++ [x]) W'))
    (W : World) (hBs : W.cell? ⟨Bs, 0, none⟩ = some (.slice A len cap)) (hrd : Reads W n₀ 1 A len (bv bs)) (h0 : J [] W) :
    CallsIn F n Try.prog 52 #[.func (.yield l) #[] #[], .pointer (some ⟨Bs, 0, none⟩)] W fun e W' => (∃ v, e = .returned v) ∧
      ((∃ ys, ys = H.words bs ∧ J ys W') ∨ (∃ pre, pre <+: H.words bs ∧ Jx pre W')) := by
  refine callsIn_of_wp Try.func52 rfl hF ?_ hro
  simp only [Try.ntmps52, List.size_toArray, List.length_cons, List.length_nil, Nat.reduceAdd, Nat.reduceSub, Array.replicate_succ, Array.replicate_zero, List.push_toArray, List.append_toArray, List.nil_append, List.cons_append]
  have hsl := Lib.hid hlen
  clear hlen
  gi_wp2
  gi_loopw [3] (fun i wr => ∃ k : Nat, k ≤ H.nw bs ∧ i = .int .i64 (8 * (k : Int)) ∧ J ((List.range k).map (H.word bs)) wr ∧ wr.cell? ⟨Bs, 0, none⟩ = some (.slice A len cap) ∧ Reads wr n₀ 1 A len (bv bs))
    (fun i _ => H.nw bs * 8 - (intOf i).toNat)
  case atStart => exact ⟨0, Nat.zero_le _, rfl, h0, hBs, hrd⟩
  case round =>
    obtain ⟨k, hk, rfl, hJs, hb, hr⟩ := hrel
    by_cases hlt : 8 * k < len
    · have hlt2 : (8 * (k : Int)) < (len : Int) := by omega
      have hkn : k < H.nw bs := by unfold H.nw; rw [hsl.out]; omega
      gi_wp2
      obtain ⟨wo, rfl⟩ : ∃ wo : World, wo = wr := ⟨_, rfl⟩
      gi_loop [4, 5] (fun v i => ∃ j : Nat, j ≤ 8 ∧ 8 * k + j ≤ len ∧ i = .int .i64 (8 * (k : Int) + (j : Int)) ∧ v = .int .u64 ((H.pw bs k j).toNat : Int)) (fun _ i => len - (intOf i).toNat)
      case atStart => exact ⟨0, by omega, by omega, by go_num, rfl⟩
      case round =>
        obtain ⟨j, hj8, hjs, rfl, rfl⟩ := hrel
        by_cases hin : j < 8 ∧ 8 * k + j < len
        · obtain ⟨h1, h2⟩ := hin
          obtain ⟨ad, u, rfl, _, hu, hcell⟩ := hr.at_ h2
          obtain ⟨c, hc, rfl⟩ := bv_at hu
          have HC := Lib.hid hc
          clear hc hu
          gi_wp2
          all_goals
            go_round
            case rel => exact ⟨j + 1, by omega, by omega, by go_num, by rw [H.pw_step h1 HC.out]⟩
            case measure => simp [intOf]; omega
        · have hY' := hY _ (H.pw bs k j) wo hJs (by simpa using hkn)
          have hall : 8 ≤ j ∨ len ≤ 8 * k + j := by omega
          obtain ⟨fn, tmps, assign, body, hy, hR⟩ := hY'
          clear hin
          gi_wp2
          all_goals
            refine hR.mono ?_
            rintro e W3 (⟨rfl, hJ3, hk3⟩ | ⟨rfl, hJx3⟩)
            · gi_wp2
              go_roundw
              case rel => exact ⟨k + 1, hkn, by go_num, by rw [H.words_succ, ← H.pw_all (l := bs) (k := k) (j := j) (by rw [hsl.out]; omega)]; exact hJ3, (hk3.2 ⟨Bs, 0, none⟩ rfl).trans hb, hr.below hk3.1⟩
              case measure => simp [intOf]; omega
            · gi_wp2
              refine bodyPost_ret (results_none rfl _ _ _) rfl ?_
              exact ⟨⟨_, rfl⟩, .inr ⟨_, by rw [H.pw_all (l := bs) (k := k) (j := j) (by rw [hsl.out]; omega), ← H.words_succ]; exact H.words_take _ _ hkn, hJx3⟩⟩
    · have hkn := Lib.hid (show k = H.nw bs by unfold H.nw at hk ⊢; rw [hsl.out] at hk ⊢; omega)
      gi_wp2
      go_end0
      exact ⟨⟨_, rfl⟩, .inl ⟨_, by rw [hkn.out]; rfl, hJs⟩⟩
end Go.Proofs.Ytfanhbemmjcomaa
