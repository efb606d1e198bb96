/- The reference's small helpers: Around, Ints, Few, SameBytes, SameInts. -/
import Derived.Test.YtkjlafklhdojmaaRows
import Derived.Test.YtkjlafklhdojmaaBase
import Derived.BigQuiet
import Derived.Deep.QuietTactic
namespace Go.Proofs.Ytkjlafklhdojmaa
open Go.RowKit
set_option linter.unusedVariables false

theorem infoInt : (Try.prog.info? 3).map (fun i => (i.zero, i.size, i.bytes)) = some (some (.int .i64 0), 1, 8) := by kernel_rfl
theorem infoByte : (Try.prog.info? 5).map (fun i => (i.zero, i.size, i.bytes)) = some (some (.int .u8 0), 1, 1) := by kernel_rfl
set_option maxHeartbeats 400000 in
theorem around_any (n m : Int) (h1 : -9223372036854775808 ≤ n) (h2 : n ≤ 9223372036854775807) (hm : 1 ≤ m) (hm2 : m ≤ 9223372036854775807) (w : World) :
    Calls Try.prog 11 #[.int .i64 n, .int .i64 m] w fun e w' => e = .returned (.int .i64 (arN n m)) ∧ w = w' := by
  by_cases h : n < 0
  · go_enter Try.func11, Try.ntmps11
    go_wp2
    go_ret
    exact ⟨ret_i64 (arN_neg h), rfl⟩
  · go_enter Try.func11, Try.ntmps11
    go_wp2
    go_ret
    exact ⟨ret_i64 (arN_pos (by omega)), rfl⟩
set_option maxHeartbeats 800000 in
theorem ints_any (A : Option Addr) (len cap m : Nat) (l : List Int) (hl : l.length = len) (hc : len ≤ cap) (hcap : cap ≤ 9223372036854775807) (hm : m ≤ 1000000) (w : World) (hrd : Reads w w.heap.size 1 A len (iv l)) :
    Calls Try.prog 28 #[.slice A len cap, .int .i64 (m : Int)] w fun e w' => ∃ v, e = .returned v ∧ w'.ownsRow w.heap.size 3 1 v (min len m) (iv (l.take m)) ∧ Below w.heap.size w w' := by
  have HL := Lib.hid hl
  clear hl
  obtain ⟨i0, hi0, hz0, hz1, hz2⟩ := info_parts infoInt
  by_cases h : m < len
  · have hr1 : Reads w w.heap.size 1 A m (iv (l.take m)) := by rw [ints_take]; exact hrd.take (by omega)
    have h1 := ints_one (l.take m)
    go_enter Try.func28, Try.ntmps28
    go_wp2_with (at_builtin; refine wpList_append_any _ rfl (.tmp 6) (.tmp 12) _ rfl w.heap.size 3 i0 _ 1 8 Try.underlying32 hi0 hz0 hz1 hz2 rfl (by omega) (.slice none 0 0) 0 [] rfl ⟨by simp, .inl ⟨rfl, rfl⟩⟩ w.heap.size A m cap (iv (l.take m)) rfl hr1 h1 (by simp only [maxLen]; omega) (by omega) (Nat.le_refl _) ?_; intro v1 w1 hown1 hg1 hat1)
    go_ret
    exact ⟨_, rfl, by rw [Nat.min_eq_right (by omega)]; simpa using hown1, (Below.refl _ _).grown hg1 (Nat.le_refl _) (by simp [Value.ownBlock])⟩
  · by_cases h2 : len < m
    · have h1 := ints_one l
      go_enter Try.func28, Try.ntmps28
      go_wp2_with (at_builtin; refine wpList_append_any _ rfl (.tmp 6) (.tmp 12) _ rfl w.heap.size 3 i0 _ 1 8 Try.underlying32 hi0 hz0 hz1 hz2 rfl (by omega) (.slice none 0 0) 0 [] rfl ⟨by simp, .inl ⟨rfl, rfl⟩⟩ w.heap.size A len cap (iv l) rfl hrd h1 (by simp only [maxLen]; omega) (by omega) (Nat.le_refl _) ?_; intro v1 w1 hown1 hg1 hat1)
      go_ret
      exact ⟨_, rfl, by rw [Nat.min_eq_left (by omega), List.take_of_length_le (by rw [HL.out]; omega)]; simpa using hown1, (Below.refl _ _).grown hg1 (Nat.le_refl _) (by simp [Value.ownBlock])⟩
    · obtain rfl : len = m := by omega
      have h1 := ints_one l
      go_enter Try.func28, Try.ntmps28
      go_wp2_with (at_builtin; refine wpList_append_any _ rfl (.tmp 6) (.tmp 12) _ rfl w.heap.size 3 i0 _ 1 8 Try.underlying32 hi0 hz0 hz1 hz2 rfl (by omega) (.slice none 0 0) 0 [] rfl ⟨by simp, .inl ⟨rfl, rfl⟩⟩ w.heap.size A len cap (iv l) rfl hrd h1 (by simp only [maxLen]; omega) (by omega) (Nat.le_refl _) ?_; intro v1 w1 hown1 hg1 hat1)
      go_ret
      exact ⟨_, rfl, by rw [Nat.min_self, List.take_of_length_le (by rw [HL.out]; omega)]; simpa using hown1, (Below.refl _ _).grown hg1 (Nat.le_refl _) (by simp [Value.ownBlock])⟩
set_option maxHeartbeats 800000 in
theorem few_any (A : Option Addr) (len cap m : Nat) (l : List UInt8) (hl : l.length = len) (hc : len ≤ cap) (hcap : cap ≤ 9223372036854775807) (hm : m ≤ 1000000) (w : World) (hrd : Reads w w.heap.size 1 A len (bv l)) :
    Calls Try.prog 19 #[.slice A len cap, .int .i64 (m : Int)] w fun e w' => ∃ v, e = .returned v ∧ w'.ownsRow w.heap.size 5 1 v (min len m) (bv (l.take m)) ∧ Below w.heap.size w w' := by
  have HL := Lib.hid hl
  clear hl
  obtain ⟨i0, hi0, hz0, hz1, hz2⟩ := info_parts infoByte
  by_cases h : m < len
  · have hr1 : Reads w w.heap.size 1 A m (bv (l.take m)) := by rw [few_take]; exact hrd.take (by omega)
    have h1 := few_one (l.take m)
    go_enter Try.func19, Try.ntmps19
    go_wp2_with (at_builtin; refine wpList_append_any _ rfl (.tmp 6) (.tmp 12) _ rfl w.heap.size 5 i0 _ 1 1 Try.underlying24 hi0 hz0 hz1 hz2 rfl (by omega) (.slice none 0 0) 0 [] rfl ⟨by simp, .inl ⟨rfl, rfl⟩⟩ w.heap.size A m cap (bv (l.take m)) rfl hr1 h1 (by simp only [maxLen]; omega) (by omega) (Nat.le_refl _) ?_; intro v1 w1 hown1 hg1 hat1)
    go_ret
    exact ⟨_, rfl, by rw [Nat.min_eq_right (by omega)]; simpa using hown1, (Below.refl _ _).grown hg1 (Nat.le_refl _) (by simp [Value.ownBlock])⟩
  · by_cases h2 : len < m
    · have h1 := few_one l
      go_enter Try.func19, Try.ntmps19
      go_wp2_with (at_builtin; refine wpList_append_any _ rfl (.tmp 6) (.tmp 12) _ rfl w.heap.size 5 i0 _ 1 1 Try.underlying24 hi0 hz0 hz1 hz2 rfl (by omega) (.slice none 0 0) 0 [] rfl ⟨by simp, .inl ⟨rfl, rfl⟩⟩ w.heap.size A len cap (bv l) rfl hrd h1 (by simp only [maxLen]; omega) (by omega) (Nat.le_refl _) ?_; intro v1 w1 hown1 hg1 hat1)
      go_ret
      exact ⟨_, rfl, by rw [Nat.min_eq_left (by omega), List.take_of_length_le (by rw [HL.out]; omega)]; simpa using hown1, (Below.refl _ _).grown hg1 (Nat.le_refl _) (by simp [Value.ownBlock])⟩
    · obtain rfl : len = m := by omega
      have h1 := few_one l
      go_enter Try.func19, Try.ntmps19
      go_wp2_with (at_builtin; refine wpList_append_any _ rfl (.tmp 6) (.tmp 12) _ rfl w.heap.size 5 i0 _ 1 1 Try.underlying24 hi0 hz0 hz1 hz2 rfl (by omega) (.slice none 0 0) 0 [] rfl ⟨by simp, .inl ⟨rfl, rfl⟩⟩ w.heap.size A len cap (bv l) rfl hrd h1 (by simp only [maxLen]; omega) (by omega) (Nat.le_refl _) ?_; intro v1 w1 hown1 hg1 hat1)
      go_ret
      exact ⟨_, rfl, by rw [Nat.min_self, List.take_of_length_le (by rw [HL.out]; omega)]; simpa using hown1, (Below.refl _ _).grown hg1 (Nat.le_refl _) (by simp [Value.ownBlock])⟩
set_option maxHeartbeats 1000000 in
theorem sameInts_any (b : Bool) (A A' : Option Addr) (len cap len' cap' : Nat) (l l' : List Int) (hl : l.length = len) (hl' : l'.length = len') (hb : b = decide (l = l')) (hs : len ≤ 9223372036854775807) (hs' : len' ≤ 9223372036854775807) (B : Nat) (w : World) (hrd : Reads w B 1 A len (iv l)) (hrd' : Reads w B 1 A' len' (iv l')) :
    Calls Try.prog 35 #[.slice A len cap, .slice A' len' cap'] w fun e w' => e = .returned (.bool b) ∧ ∃ n, w' = w.drewN n := by
  have HL := Lib.hid hl
  have HL' := Lib.hid hl'
  have HB := Lib.hid hb
  clear hl hl' hb
  by_cases hne : len = len'
  · subst hne
    go_enter Try.func35, Try.ntmps35
    go_wp2
    go_loopw [5] (fun i wr => ∃ k : Nat, k ≤ len ∧ i = .int .i64 (k : Int) ∧ Agree l l' k ∧ ∃ n, wr = w.drewN n) (fun i _ => len - (intOf i).toNat)
    case atStart => exact ⟨0, Nat.zero_le _, rfl, Agree.zero _ _, 0, rfl⟩
    case round =>
      obtain ⟨k, hk, rfl, hpre, nd, rfl⟩ := hrel
      by_cases hlt : k < len
      · obtain ⟨ad, u, rfl, _, hu, hcell⟩ := hrd.at_ hlt
        obtain ⟨ad', u', rfl, _, hu', hcell'⟩ := hrd'.at_ hlt
        obtain ⟨x, hx, rfl⟩ := iv_at hu
        obtain ⟨x', hx', rfl⟩ := iv_at hu'
        have HX := Lib.hid hx
        have HX' := Lib.hid hx'
        clear hx hx' hu hu'
        by_cases hxx : x = x'
        · subst hxx
          go_wp2
          go_quiet (fail)
          go_wp2
          go_roundw
          case rel => exact ⟨k + 1, by omega, by go_num, hpre.succ (HX.out.trans HX'.out.symm), _, rfl⟩
          case measure => simp [intOf]; omega
        · have hbne := (show (x != x') = true by rw [bne_iff_ne]; exact hxx)
          have HN := Lib.hid (show b = false by rw [HB.out]; exact decide_eq_false (fun e => hxx (by have h1 := HX.out; have h2 := HX'.out; rw [e] at h1; exact Option.some.inj (h1.symm.trans h2))))
          clear hxx
          go_wp2
          go_quiet (fail)
          go_wp2
          go_ret
          exact ⟨by rw [HN.out]; rfl, _, World.drewN_drewN _ _ _⟩
      · have HN := Lib.hid (show b = true by rw [HB.out]; exact decide_eq_true (hpre.all (by rw [HL.out]; omega) (by rw [HL'.out]; omega)))
        go_wp2
        go_ret
        exact ⟨by rw [HN.out]; rfl, nd, rfl⟩
  · have HN := Lib.hid (show b = false by rw [HB.out]; exact decide_eq_false (fun e => hne (by rw [← HL.out, ← HL'.out, e])))
    have hb1 : ((len : Int) != (len' : Int)) = true := by rw [bne_iff_ne]; omega
    have hb2 : ((len : Int) == (len' : Int)) = false := by rw [beq_eq_false_iff_ne]; omega
    clear hne
    go_enter Try.func35, Try.ntmps35
    go_wp2
    go_ret
    exact ⟨by rw [HN.out]; rfl, 0, rfl⟩
set_option maxHeartbeats 1000000 in
theorem sameBytes_any (b : Bool) (A A' : Option Addr) (len cap len' cap' : Nat) (l l' : List UInt8) (hl : l.length = len) (hl' : l'.length = len') (hb : b = decide (l = l')) (hs : len ≤ 9223372036854775807) (hs' : len' ≤ 9223372036854775807) (B : Nat) (w : World) (hrd : Reads w B 1 A len (bv l)) (hrd' : Reads w B 1 A' len' (bv l')) :
    Calls Try.prog 30 #[.slice A len cap, .slice A' len' cap'] w fun e w' => e = .returned (.bool b) ∧ ∃ n, w' = w.drewN n := by
  have HL := Lib.hid hl
  have HL' := Lib.hid hl'
  have HB := Lib.hid hb
  clear hl hl' hb
  by_cases hne : len = len'
  · subst hne
    go_enter Try.func30, Try.ntmps30
    go_wp2
    go_loopw [5] (fun i wr => ∃ k : Nat, k ≤ len ∧ i = .int .i64 (k : Int) ∧ Agree l l' k ∧ ∃ n, wr = w.drewN n) (fun i _ => len - (intOf i).toNat)
    case atStart => exact ⟨0, Nat.zero_le _, rfl, Agree.zero _ _, 0, rfl⟩
    case round =>
      obtain ⟨k, hk, rfl, hpre, nd, rfl⟩ := hrel
      by_cases hlt : k < len
      · obtain ⟨ad, u, rfl, _, hu, hcell⟩ := hrd.at_ hlt
        obtain ⟨ad', u', rfl, _, hu', hcell'⟩ := hrd'.at_ hlt
        obtain ⟨x, hx, rfl⟩ := bv_at hu
        obtain ⟨x', hx', rfl⟩ := bv_at hu'
        have HX := Lib.hid hx
        have HX' := Lib.hid hx'
        clear hx hx' hu hu'
        by_cases hxx : x = x'
        · subst hxx
          go_wp2
          go_quiet (fail)
          go_wp2
          go_roundw
          case rel => exact ⟨k + 1, by omega, by go_num, hpre.succ (HX.out.trans HX'.out.symm), _, rfl⟩
          case measure => simp [intOf]; omega
        · have hbne := (show ((x.toNat : Int) != (x'.toNat : Int)) = true by rw [bne_iff_ne]; intro e; exact hxx (UInt8.toNat_inj.1 (by omega)))
          have HN := Lib.hid (show b = false by rw [HB.out]; exact decide_eq_false (fun e => hxx (by have h1 := HX.out; have h2 := HX'.out; rw [e] at h1; exact Option.some.inj (h1.symm.trans h2))))
          clear hxx
          go_wp2
          go_quiet (fail)
          go_wp2
          go_ret
          exact ⟨by rw [HN.out]; rfl, _, World.drewN_drewN _ _ _⟩
      · have HN := Lib.hid (show b = true by rw [HB.out]; exact decide_eq_true (hpre.all (by rw [HL.out]; omega) (by rw [HL'.out]; omega)))
        go_wp2
        go_ret
        exact ⟨by rw [HN.out]; rfl, nd, rfl⟩
  · have HN := Lib.hid (show b = false by rw [HB.out]; exact decide_eq_false (fun e => hne (by rw [← HL.out, ← HL'.out, e])))
    have hb1 : ((len : Int) != (len' : Int)) = true := by rw [bne_iff_ne]; omega
    have hb2 : ((len : Int) == (len' : Int)) = false := by rw [beq_eq_false_iff_ne]; omega
    clear hne
    go_enter Try.func30, Try.ntmps30
    go_wp2
    go_ret
    exact ⟨by rw [HN.out]; rfl, 0, rfl⟩
/-- Few, its result written out. -/
theorem few_reads (A : Option Addr) (len cap m : Nat) (l : List UInt8) (k : Nat) (hl : l.length = len) (hc : len ≤ cap) (hcap : cap ≤ 9223372036854775807) (hm : m ≤ 1000000) (hk : (l.take m).length = k) (w : World) (hrd : Reads w w.heap.size 1 A len (bv l)) :
    Calls Try.prog 19 #[.slice A len cap, .int .i64 (m : Int)] w fun e w' => ∃ A' c', e = .returned (.slice A' k c') ∧ k ≤ c' ∧ w'.ownsRow w.heap.size 5 1 (.slice A' k c') k (bv (l.take m)) ∧ Below w.heap.size w w' := by
  have e : min len m = k := by rw [← hk, List.length_take, hl]; omega
  refine (few_any A len cap m l hl hc hcap hm w hrd).mono ?_
  rintro e w' ⟨v, rfl, hown, hb⟩
  rw [e] at hown
  obtain ⟨A2, c2, rfl, hc2, _, _⟩ := own_reads hown
  exact ⟨A2, c2, rfl, hc2, hown, hb⟩
theorem ints_reads (A : Option Addr) (len cap m : Nat) (l : List Int) (k : Nat) (hl : l.length = len) (hc : len ≤ cap) (hcap : cap ≤ 9223372036854775807) (hm : m ≤ 1000000) (hk : (l.take m).length = k) (w : World) (hrd : Reads w w.heap.size 1 A len (iv l)) :
    Calls Try.prog 28 #[.slice A len cap, .int .i64 (m : Int)] w fun e w' => ∃ A' c', e = .returned (.slice A' k c') ∧ k ≤ c' ∧ w'.ownsRow w.heap.size 3 1 (.slice A' k c') k (iv (l.take m)) ∧ Below w.heap.size w w' := by
  have e : min len m = k := by rw [← hk, List.length_take, hl]; omega
  refine (ints_any A len cap m l hl hc hcap hm w hrd).mono ?_
  rintro e w' ⟨v, rfl, hown, hb⟩
  rw [e] at hown
  obtain ⟨A2, c2, rfl, hc2, _, _⟩ := own_reads hown
  exact ⟨A2, c2, rfl, hc2, hown, hb⟩
theorem sameBytes_b (b : Bool) (A A' : Option Addr) (len cap len' cap' : Nat) (l l' : List UInt8) (hl : l.length = len) (hl' : l'.length = len') (hb : b = decide (l = l')) (hs : len ≤ 1000000) (hs' : len' ≤ 1000000) (w : World) (hrd : Reads w w.heap.size 1 A len (bv l)) (hrd' : Reads w w.heap.size 1 A' len' (bv l')) :
    Calls Try.prog 30 #[.slice A len cap, .slice A' len' cap'] w fun e w' => e = .returned (.bool b) ∧ Below w.heap.size w w' :=
  (sameBytes_any b A A' len cap len' cap' l l' hl hl' hb (by omega) (by omega) w.heap.size w hrd hrd').mono fun e w' ⟨he, n, hn⟩ => ⟨he, by rw [hn]; exact below_drewN' (Below.refl _ _) n⟩
theorem sameInts_b (b : Bool) (A A' : Option Addr) (len cap len' cap' : Nat) (l l' : List Int) (hl : l.length = len) (hl' : l'.length = len') (hb : b = decide (l = l')) (hs : len ≤ 1000000) (hs' : len' ≤ 1000000) (w : World) (hrd : Reads w w.heap.size 1 A len (iv l)) (hrd' : Reads w w.heap.size 1 A' len' (iv l')) :
    Calls Try.prog 35 #[.slice A len cap, .slice A' len' cap'] w fun e w' => e = .returned (.bool b) ∧ Below w.heap.size w w' :=
  (sameInts_any b A A' len cap len' cap' l l' hl hl' hb (by omega) (by omega) w.heap.size w hrd hrd').mono fun e w' ⟨he, n, hn⟩ => ⟨he, by rw [hn]; exact below_drewN' (Below.refl _ _) n⟩
theorem around_nat (n m : Int) (kn : Nat) (h1 : -9223372036854775808 ≤ n) (h2 : n ≤ 9223372036854775807) (hm : 1 ≤ m) (hm2 : m ≤ 1000000) (hk : arN n m = (kn : Int)) (w : World) :
    Calls Try.prog 11 #[.int .i64 n, .int .i64 m] w fun e w' => e = .returned (.int .i64 (kn : Int)) ∧ w = w' := by
  rw [← hk]; exact around_any n m h1 h2 hm (by omega) w
end Go.Proofs.Ytkjlafklhdojmaa
