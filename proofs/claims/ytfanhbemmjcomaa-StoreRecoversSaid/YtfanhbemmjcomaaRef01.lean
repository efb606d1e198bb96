/- The reference's small helpers: Around, Ints, Few, SameBytes, SameInts. -/
import Derived.Test.YtfanhbemmjcomaaRows
import Derived.Test.YtfanhbemmjcomaaBase
import Derived.BigQuiet
import Derived.Deep.QuietTactic
namespace Go.Proofs.Ytfanhbemmjcomaa
open Go.RowKit
set_option linter.unusedVariables false

theorem infoInt : (Try.prog.info? 3).map (fun i => (i.zero, i.size, i.bytes)) = some (some (.int .i64 0), 1, 8) := by kernel_rfl
theorem infoByte : (Try.prog.info? 5).map (fun i => (i.zero, i.size, i.bytes)) = some (some (.int .u8 0), 1, 1) := by kernel_rfl
set_option maxHeartbeats 400000 in
theorem around_any (n m : Int) (h1 : -9223372036854775808 ≤ n) (h2 : n ≤ 9223372036854775807) (hm : 1 ≤ m) (hm2 : m ≤ 9223372036854775807) (w : World) :
    Calls Try.prog 33 #[.int .i64 n, .int .i64 m] w fun e w' => e = .returned (.int .i64 (arN n m)) ∧ w = w' := by
  by_cases h : n < 0
  · go_enter Try.func33, Try.ntmps33
    go_wp2
    go_ret
    exact ⟨ret_i64 (arN_neg h), rfl⟩
  · go_enter Try.func33, Try.ntmps33
    go_wp2
    go_ret
    exact ⟨ret_i64 (arN_pos (by omega)), rfl⟩
set_option maxHeartbeats 800000 in
theorem few_any (A : Option Addr) (len cap m : Nat) (l : List UInt8) (hl : l.length = len) (hc : len ≤ cap) (hcap : cap ≤ 9223372036854775807) (hm : m ≤ 1000000) (w : World) (hrd : Reads w w.heap.size 1 A len (bv l)) :
    Calls Try.prog 10 #[.slice A len cap, .int .i64 (m : Int)] w fun e w' => ∃ v, e = .returned v ∧ w'.ownsRow w.heap.size 5 1 v (min len m) (bv (l.take m)) ∧ Below w.heap.size w w' := by
  have HL := Lib.hid hl
  clear hl
  obtain ⟨i0, hi0, hz0, hz1, hz2⟩ := info_parts infoByte
  by_cases h : m < len
  · have hr1 : Reads w w.heap.size 1 A m (bv (l.take m)) := by rw [few_take]; exact hrd.take (by omega)
    have h1 := few_one (l.take m)
    go_enter Try.func10, Try.ntmps10
    go_wp2_with (at_builtin; refine wpList_append_any _ rfl (.tmp 6) (.tmp 12) _ rfl w.heap.size 5 i0 _ 1 1 Try.underlying22 hi0 hz0 hz1 hz2 rfl (by omega) (.slice none 0 0) 0 [] rfl ⟨by simp, .inl ⟨rfl, rfl⟩⟩ w.heap.size A m cap (bv (l.take m)) rfl hr1 h1 (by simp only [maxLen]; omega) (by omega) (Nat.le_refl _) ?_; intro v1 w1 hown1 hg1 hat1)
    go_ret
    exact ⟨_, rfl, by rw [Nat.min_eq_right (by omega)]; simpa using hown1, (Below.refl _ _).grown hg1 (Nat.le_refl _) (by simp [Value.ownBlock])⟩
  · by_cases h2 : len < m
    · have h1 := few_one l
      go_enter Try.func10, Try.ntmps10
      go_wp2_with (at_builtin; refine wpList_append_any _ rfl (.tmp 6) (.tmp 12) _ rfl w.heap.size 5 i0 _ 1 1 Try.underlying22 hi0 hz0 hz1 hz2 rfl (by omega) (.slice none 0 0) 0 [] rfl ⟨by simp, .inl ⟨rfl, rfl⟩⟩ w.heap.size A len cap (bv l) rfl hrd h1 (by simp only [maxLen]; omega) (by omega) (Nat.le_refl _) ?_; intro v1 w1 hown1 hg1 hat1)
      go_ret
      exact ⟨_, rfl, by rw [Nat.min_eq_left (by omega), List.take_of_length_le (by rw [HL.out]; omega)]; simpa using hown1, (Below.refl _ _).grown hg1 (Nat.le_refl _) (by simp [Value.ownBlock])⟩
    · obtain rfl : len = m := by omega
      have h1 := few_one l
      go_enter Try.func10, Try.ntmps10
      go_wp2_with (at_builtin; refine wpList_append_any _ rfl (.tmp 6) (.tmp 12) _ rfl w.heap.size 5 i0 _ 1 1 Try.underlying22 hi0 hz0 hz1 hz2 rfl (by omega) (.slice none 0 0) 0 [] rfl ⟨by simp, .inl ⟨rfl, rfl⟩⟩ w.heap.size A len cap (bv l) rfl hrd h1 (by simp only [maxLen]; omega) (by omega) (Nat.le_refl _) ?_; intro v1 w1 hown1 hg1 hat1)
      go_ret
      exact ⟨_, rfl, by rw [Nat.min_self, List.take_of_length_le (by rw [HL.out]; omega)]; simpa using hown1, (Below.refl _ _).grown hg1 (Nat.le_refl _) (by simp [Value.ownBlock])⟩
/-- Few, its result written out. -/
theorem few_reads (A : Option Addr) (len cap m : Nat) (l : List UInt8) (k : Nat) (hl : l.length = len) (hc : len ≤ cap) (hcap : cap ≤ 9223372036854775807) (hm : m ≤ 1000000) (hk : (l.take m).length = k) (w : World) (hrd : Reads w w.heap.size 1 A len (bv l)) :
    Calls Try.prog 10 #[.slice A len cap, .int .i64 (m : Int)] w fun e w' => ∃ A' c', e = .returned (.slice A' k c') ∧ k ≤ c' ∧ w'.ownsRow w.heap.size 5 1 (.slice A' k c') k (bv (l.take m)) ∧ Below w.heap.size w w' := by
  have e : min len m = k := by rw [← hk, List.length_take, hl]; omega
  refine (few_any A len cap m l hl hc hcap hm w hrd).mono ?_
  rintro e w' ⟨v, rfl, hown, hb⟩
  rw [e] at hown
  obtain ⟨A2, c2, rfl, hc2, _, _⟩ := own_reads hown
  exact ⟨A2, c2, rfl, hc2, hown, hb⟩
theorem around_nat (n m : Int) (kn : Nat) (h1 : -9223372036854775808 ≤ n) (h2 : n ≤ 9223372036854775807) (hm : 1 ≤ m) (hm2 : m ≤ 1000000) (hk : arN n m = (kn : Int)) (w : World) :
    Calls Try.prog 33 #[.int .i64 n, .int .i64 m] w fun e w' => e = .returned (.int .i64 (kn : Int)) ∧ w = w' := by
  rw [← hk]; exact around_any n m h1 h2 hm (by omega) w
end Go.Proofs.Ytfanhbemmjcomaa
