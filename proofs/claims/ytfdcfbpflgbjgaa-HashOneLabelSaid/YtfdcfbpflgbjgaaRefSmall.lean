/- The reference's small helpers: Short, Ints, Few, Around, SameBytes, SameInts. -/
import Derived.Test.YtfdcfbpflgbjgaaHashBytes
import Derived.BigQuiet
import Derived.Deep.QuietTactic
namespace Go.Proofs.Ytfdcfbpflgbjgaa
open Go.RowKit
set_option linter.unusedVariables false

theorem infoByte : (Try.prog.info? 5).map (fun i => (i.zero, i.size, i.bytes)) = some (some (.int .u8 0), 1, 1) := by kernel_rfl

set_option maxHeartbeats 400000 in
theorem short_any (s : ByteArray) (m : Nat) (hs : s.size ≤ maxLen) (hm : m ≤ 1000000) (w : World) :
    Calls Try.prog 11 #[.string s, .int .i64 (m : Int)] w fun e w' => (∃ t : ByteArray, e = .returned (.string t) ∧ t.size ≤ m ∧ t.data.toList = s.data.toList.take m) ∧ w = w' := by
  unfold maxLen at hs
  by_cases h : m < s.size
  · go_enter Try.func11, Try.ntmps11
    go_wp2
    go_ret
    refine ⟨⟨s.extract 0 m, rfl, ?_, ?_⟩, rfl⟩
    · rw [← H.str_len]; simp; omega
    · simp
  · go_enter Try.func11, Try.ntmps11
    go_wp2
    go_ret
    exact ⟨⟨s, rfl, by omega, by rw [List.take_of_length_le (by rw [H.str_len]; omega)]⟩, rfl⟩

def arN (n m : Int) : Int := (if n < 0 then -(n + 1) else n) % m
theorem arN_bd (n m : Int) (h : 1 ≤ m) : 0 ≤ arN n m ∧ arN n m < m := by
  unfold arN
  exact ⟨Int.emod_nonneg _ (by omega), Int.emod_lt_of_pos _ (by omega)⟩
theorem arN_neg {n m : Int} (h : n < 0) : -(n + 1).tmod m = arN n m := by
  unfold arN
  rw [if_pos h, ← Int.neg_tmod, Int.tmod_eq_emod_of_nonneg (by omega)]
theorem arN_pos {n m : Int} (h : 0 ≤ n) : n % m = arN n m := by
  unfold arN
  rw [if_neg (by omega)]
theorem ret_i64 {a b : Int} (h : a = b) : Ending.returned (.int .i64 a) = .returned (.int .i64 b) := by rw [h]
set_option maxHeartbeats 400000 in
theorem around_any (n m : Int) (h1 : -9223372036854775808 ≤ n) (h2 : n ≤ 9223372036854775807) (hm : 1 ≤ m) (hm2 : m ≤ 9223372036854775807) (w : World) :
    Calls Try.prog 21 #[.int .i64 n, .int .i64 m] w fun e w' => e = .returned (.int .i64 (arN n m)) ∧ w = w' := by
  by_cases h : n < 0
  · go_enter Try.func21, Try.ntmps21
    go_wp2
    go_ret
    exact ⟨ret_i64 (arN_neg h), rfl⟩
  · go_enter Try.func21, Try.ntmps21
    go_wp2
    go_ret
    exact ⟨ret_i64 (arN_pos (by omega)), rfl⟩


theorem ints_one (l : List Int) : ∀ u ∈ iv l, u.oneCell' = true := by
  intro u hu
  unfold iv at hu
  obtain ⟨x, _, rfl⟩ := List.mem_map.1 hu
  rfl
theorem ints_len (l : List Int) : (iv l).length = l.length := by simp [iv]
theorem ints_take (l : List Int) (k : Nat) : iv (l.take k) = (iv l).take k := by simp [iv, List.map_take]
set_option maxHeartbeats 800000 in
theorem ints_any (A : Option Addr) (len cap m : Nat) (l : List Int) (hl : l.length = len) (hc : len ≤ cap) (hcap : cap ≤ 9223372036854775807) (hm : m ≤ 1000000) (w : World) (hrd : Reads w w.heap.size 1 A len (iv l)) :
    Calls Try.prog 12 #[.slice A len cap, .int .i64 (m : Int)] w fun e w' => ∃ v, e = .returned v ∧ w'.ownsRow w.heap.size 3 1 v (min len m) (iv (l.take m)) ∧ Below w.heap.size w w' := by
  have HL := Lib.hid hl
  clear hl
  obtain ⟨i0, hi0, hz0, hz1, hz2⟩ := info_parts infoInt
  by_cases h : m < len
  · have hr1 : Reads w w.heap.size 1 A m (iv (l.take m)) := by rw [ints_take]; exact hrd.take (by omega)
    have h1 := ints_one (l.take m)
    go_enter Try.func12, Try.ntmps12
    go_wp2_with (at_builtin; refine wpList_append_any _ rfl (.tmp 6) (.tmp 12) _ rfl w.heap.size 3 i0 _ 1 8 Try.underlying22 hi0 hz0 hz1 hz2 rfl (by omega) (.slice none 0 0) 0 [] rfl ⟨by simp, .inl ⟨rfl, rfl⟩⟩ w.heap.size A m cap (iv (l.take m)) rfl hr1 h1 (by simp only [maxLen]; omega) (by omega) (Nat.le_refl _) ?_; intro v1 w1 hown1 hg1 hat1)
    go_ret
    exact ⟨_, rfl, by rw [Nat.min_eq_right (by omega)]; simpa using hown1, (Below.refl _ _).grown hg1 (Nat.le_refl _) (by simp [Value.ownBlock])⟩
  · by_cases h2 : len < m
    · have h1 := ints_one l
      go_enter Try.func12, Try.ntmps12
      go_wp2_with (at_builtin; refine wpList_append_any _ rfl (.tmp 6) (.tmp 12) _ rfl w.heap.size 3 i0 _ 1 8 Try.underlying22 hi0 hz0 hz1 hz2 rfl (by omega) (.slice none 0 0) 0 [] rfl ⟨by simp, .inl ⟨rfl, rfl⟩⟩ w.heap.size A len cap (iv l) rfl hrd h1 (by simp only [maxLen]; omega) (by omega) (Nat.le_refl _) ?_; intro v1 w1 hown1 hg1 hat1)
      go_ret
      exact ⟨_, rfl, by rw [Nat.min_eq_left (by omega), List.take_of_length_le (by rw [HL.out]; omega)]; simpa using hown1, (Below.refl _ _).grown hg1 (Nat.le_refl _) (by simp [Value.ownBlock])⟩
    · obtain rfl : len = m := by omega
      have h1 := ints_one l
      go_enter Try.func12, Try.ntmps12
      go_wp2_with (at_builtin; refine wpList_append_any _ rfl (.tmp 6) (.tmp 12) _ rfl w.heap.size 3 i0 _ 1 8 Try.underlying22 hi0 hz0 hz1 hz2 rfl (by omega) (.slice none 0 0) 0 [] rfl ⟨by simp, .inl ⟨rfl, rfl⟩⟩ w.heap.size A len cap (iv l) rfl hrd h1 (by simp only [maxLen]; omega) (by omega) (Nat.le_refl _) ?_; intro v1 w1 hown1 hg1 hat1)
      go_ret
      exact ⟨_, rfl, by rw [Nat.min_self, List.take_of_length_le (by rw [HL.out]; omega)]; simpa using hown1, (Below.refl _ _).grown hg1 (Nat.le_refl _) (by simp [Value.ownBlock])⟩

theorem few_one (l : List UInt8) : ∀ u ∈ bv l, u.oneCell' = true := by
  intro u hu
  unfold bv at hu
  obtain ⟨x, _, rfl⟩ := List.mem_map.1 hu
  rfl
theorem few_len (l : List UInt8) : (bv l).length = l.length := by simp [bv]
theorem few_take (l : List UInt8) (k : Nat) : bv (l.take k) = (bv l).take k := by simp [bv, List.map_take]
set_option maxHeartbeats 800000 in
theorem few_any (A : Option Addr) (len cap m : Nat) (l : List UInt8) (hl : l.length = len) (hc : len ≤ cap) (hcap : cap ≤ 9223372036854775807) (hm : m ≤ 1000000) (w : World) (hrd : Reads w w.heap.size 1 A len (bv l)) :
    Calls Try.prog 16 #[.slice A len cap, .int .i64 (m : Int)] w fun e w' => ∃ v, e = .returned v ∧ w'.ownsRow w.heap.size 5 1 v (min len m) (bv (l.take m)) ∧ Below w.heap.size w w' := by
  have HL := Lib.hid hl
  clear hl
  obtain ⟨i0, hi0, hz0, hz1, hz2⟩ := info_parts infoByte
  by_cases h : m < len
  · have hr1 : Reads w w.heap.size 1 A m (bv (l.take m)) := by rw [few_take]; exact hrd.take (by omega)
    have h1 := few_one (l.take m)
    go_enter Try.func16, Try.ntmps16
    go_wp2_with (at_builtin; refine wpList_append_any _ rfl (.tmp 6) (.tmp 12) _ rfl w.heap.size 5 i0 _ 1 1 Try.underlying30 hi0 hz0 hz1 hz2 rfl (by omega) (.slice none 0 0) 0 [] rfl ⟨by simp, .inl ⟨rfl, rfl⟩⟩ w.heap.size A m cap (bv (l.take m)) rfl hr1 h1 (by simp only [maxLen]; omega) (by omega) (Nat.le_refl _) ?_; intro v1 w1 hown1 hg1 hat1)
    go_ret
    exact ⟨_, rfl, by rw [Nat.min_eq_right (by omega)]; simpa using hown1, (Below.refl _ _).grown hg1 (Nat.le_refl _) (by simp [Value.ownBlock])⟩
  · by_cases h2 : len < m
    · have h1 := few_one l
      go_enter Try.func16, Try.ntmps16
      go_wp2_with (at_builtin; refine wpList_append_any _ rfl (.tmp 6) (.tmp 12) _ rfl w.heap.size 5 i0 _ 1 1 Try.underlying30 hi0 hz0 hz1 hz2 rfl (by omega) (.slice none 0 0) 0 [] rfl ⟨by simp, .inl ⟨rfl, rfl⟩⟩ w.heap.size A len cap (bv l) rfl hrd h1 (by simp only [maxLen]; omega) (by omega) (Nat.le_refl _) ?_; intro v1 w1 hown1 hg1 hat1)
      go_ret
      exact ⟨_, rfl, by rw [Nat.min_eq_left (by omega), List.take_of_length_le (by rw [HL.out]; omega)]; simpa using hown1, (Below.refl _ _).grown hg1 (Nat.le_refl _) (by simp [Value.ownBlock])⟩
    · obtain rfl : len = m := by omega
      have h1 := few_one l
      go_enter Try.func16, Try.ntmps16
      go_wp2_with (at_builtin; refine wpList_append_any _ rfl (.tmp 6) (.tmp 12) _ rfl w.heap.size 5 i0 _ 1 1 Try.underlying30 hi0 hz0 hz1 hz2 rfl (by omega) (.slice none 0 0) 0 [] rfl ⟨by simp, .inl ⟨rfl, rfl⟩⟩ w.heap.size A len cap (bv l) rfl hrd h1 (by simp only [maxLen]; omega) (by omega) (Nat.le_refl _) ?_; intro v1 w1 hown1 hg1 hat1)
      go_ret
      exact ⟨_, rfl, by rw [Nat.min_self, List.take_of_length_le (by rw [HL.out]; omega)]; simpa using hown1, (Below.refl _ _).grown hg1 (Nat.le_refl _) (by simp [Value.ownBlock])⟩

/-- Two lists agree in their first k places. -/
def Agree {α : Type} (l m : List α) (k : Nat) : Prop := ∀ j : Nat, j < k → l[j]? = m[j]?
theorem Agree.zero {α : Type} (l m : List α) : Agree l m 0 := fun j hj => absurd hj (by omega)
theorem Agree.succ {α : Type} {l m : List α} {k : Nat} (h : Agree l m k) (e : l[k]? = m[k]?) : Agree l m (k + 1) := fun j hj => by
  by_cases hj2 : j = k
  · rw [hj2, e]
  · exact h j (by omega)
theorem Agree.all {α : Type} {l m : List α} {k : Nat} (h : Agree l m k) (hl : l.length ≤ k) (hm : m.length ≤ k) : l = m := by
  apply List.ext_getElem?
  intro i
  by_cases hi : i < k
  · exact h i hi
  · rw [List.getElem?_eq_none (by omega), List.getElem?_eq_none (by omega)]

set_option maxHeartbeats 1000000 in
theorem sameInts_any (b : Bool) (A A' : Option Addr) (len cap len' cap' : Nat) (l l' : List Int) (hl : l.length = len) (hl' : l'.length = len') (hb : b = decide (l = l')) (hs : len ≤ 9223372036854775807) (hs' : len' ≤ 9223372036854775807) (B : Nat) (w : World) (hrd : Reads w B 1 A len (iv l)) (hrd' : Reads w B 1 A' len' (iv l')) :
    Calls Try.prog 24 #[.slice A len cap, .slice A' len' cap'] w fun e w' => e = .returned (.bool b) ∧ ∃ n, w' = w.drewN n := by
  have HL := Lib.hid hl
  have HL' := Lib.hid hl'
  have HB := Lib.hid hb
  clear hl hl' hb
  by_cases hne : len = len'
  · subst hne
    go_enter Try.func24, Try.ntmps24
    go_wp2
    go_loopw [5] (fun i wr => ∃ k : Nat, k ≤ len ∧ i = .int .i64 (k : Int) ∧ Agree l l' k ∧ ∃ n, wr = w.drewN n) (fun i _ => len - (intOf i).toNat)
    case atStart => exact ⟨0, Nat.zero_le _, rfl, Agree.zero _ _, 0, rfl⟩
    case round =>
      obtain ⟨k, hk, rfl, hpre, nd, rfl⟩ := hrel
      by_cases hlt : k < len
      · obtain ⟨ad, u, rfl, _, hu, hcell⟩ := hrd.at_ hlt
        obtain ⟨ad', u', rfl, _, hu', hcell'⟩ := hrd'.at_ hlt
        obtain ⟨x, hx, rfl⟩ := iv_at hu
        obtain ⟨x', hx', rfl⟩ := iv_at hu'
        have HX := Lib.hid hx
        have HX' := Lib.hid hx'
        clear hx hx' hu hu'
        by_cases hxx : x = x'
        · subst hxx
          go_wp2
          go_quiet (fail)
          go_wp2
          go_roundw
          case rel => exact ⟨k + 1, by omega, by go_num, hpre.succ (HX.out.trans HX'.out.symm), _, rfl⟩
          case measure => simp [intOf]; omega
        · have hbne := (show (x != x') = true by rw [bne_iff_ne]; exact hxx)
          have HN := Lib.hid (show b = false by rw [HB.out]; exact decide_eq_false (fun e => hxx (by have h1 := HX.out; have h2 := HX'.out; rw [e] at h1; exact Option.some.inj (h1.symm.trans h2))))
          clear hxx
          go_wp2
          go_quiet (fail)
          go_wp2
          go_ret
          exact ⟨by rw [HN.out]; rfl, _, World.drewN_drewN _ _ _⟩
      · have HN := Lib.hid (show b = true by rw [HB.out]; exact decide_eq_true (hpre.all (by rw [HL.out]; omega) (by rw [HL'.out]; omega)))
        go_wp2
        go_ret
        exact ⟨by rw [HN.out]; rfl, nd, rfl⟩
  · have HN := Lib.hid (show b = false by rw [HB.out]; exact decide_eq_false (fun e => hne (by rw [← HL.out, ← HL'.out, e])))
    have hb1 : ((len : Int) != (len' : Int)) = true := by rw [bne_iff_ne]; omega
    have hb2 : ((len : Int) == (len' : Int)) = false := by rw [beq_eq_false_iff_ne]; omega
    clear hne
    go_enter Try.func24, Try.ntmps24
    go_wp2
    go_ret
    exact ⟨by rw [HN.out]; rfl, 0, rfl⟩

set_option maxHeartbeats 1000000 in
theorem sameBytes_any (b : Bool) (A A' : Option Addr) (len cap len' cap' : Nat) (l l' : List UInt8) (hl : l.length = len) (hl' : l'.length = len') (hb : b = decide (l = l')) (hs : len ≤ 9223372036854775807) (hs' : len' ≤ 9223372036854775807) (B : Nat) (w : World) (hrd : Reads w B 1 A len (bv l)) (hrd' : Reads w B 1 A' len' (bv l')) :
    Calls Try.prog 22 #[.slice A len cap, .slice A' len' cap'] w fun e w' => e = .returned (.bool b) ∧ ∃ n, w' = w.drewN n := by
  have HL := Lib.hid hl
  have HL' := Lib.hid hl'
  have HB := Lib.hid hb
  clear hl hl' hb
  by_cases hne : len = len'
  · subst hne
    go_enter Try.func22, Try.ntmps22
    go_wp2
    go_loopw [5] (fun i wr => ∃ k : Nat, k ≤ len ∧ i = .int .i64 (k : Int) ∧ Agree l l' k ∧ ∃ n, wr = w.drewN n) (fun i _ => len - (intOf i).toNat)
    case atStart => exact ⟨0, Nat.zero_le _, rfl, Agree.zero _ _, 0, rfl⟩
    case round =>
      obtain ⟨k, hk, rfl, hpre, nd, rfl⟩ := hrel
      by_cases hlt : k < len
      · obtain ⟨ad, u, rfl, _, hu, hcell⟩ := hrd.at_ hlt
        obtain ⟨ad', u', rfl, _, hu', hcell'⟩ := hrd'.at_ hlt
        obtain ⟨x, hx, rfl⟩ := bv_at hu
        obtain ⟨x', hx', rfl⟩ := bv_at hu'
        have HX := Lib.hid hx
        have HX' := Lib.hid hx'
        clear hx hx' hu hu'
        by_cases hxx : x = x'
        · subst hxx
          go_wp2
          go_quiet (fail)
          go_wp2
          go_roundw
          case rel => exact ⟨k + 1, by omega, by go_num, hpre.succ (HX.out.trans HX'.out.symm), _, rfl⟩
          case measure => simp [intOf]; omega
        · have hbne := (show ((x.toNat : Int) != (x'.toNat : Int)) = true by rw [bne_iff_ne]; intro e; exact hxx (UInt8.toNat_inj.1 (by omega)))
          have HN := Lib.hid (show b = false by rw [HB.out]; exact decide_eq_false (fun e => hxx (by have h1 := HX.out; have h2 := HX'.out; rw [e] at h1; exact Option.some.inj (h1.symm.trans h2))))
          clear hxx
          go_wp2
          go_quiet (fail)
          go_wp2
          go_ret
          exact ⟨by rw [HN.out]; rfl, _, World.drewN_drewN _ _ _⟩
      · have HN := Lib.hid (show b = true by rw [HB.out]; exact decide_eq_true (hpre.all (by rw [HL.out]; omega) (by rw [HL'.out]; omega)))
        go_wp2
        go_ret
        exact ⟨by rw [HN.out]; rfl, nd, rfl⟩
  · have HN := Lib.hid (show b = false by rw [HB.out]; exact decide_eq_false (fun e => hne (by rw [← HL.out, ← HL'.out, e])))
    have hb1 : ((len : Int) != (len' : Int)) = true := by rw [bne_iff_ne]; omega
    have hb2 : ((len : Int) == (len' : Int)) = false := by rw [beq_eq_false_iff_ne]; omega
    clear hne
    go_enter Try.func22, Try.ntmps22
    go_wp2
    go_ret
    exact ⟨by rw [HN.out]; rfl, 0, rfl⟩
end Go.Proofs.Ytfdcfbpflgbjgaa
