/- The documented examples hold: lives returns true; nothing that lay before has turned. -/
import Derived.Test.YtfdcfbpflgbjgaaHashRef2
namespace Go.Proofs.Ytfdcfbpflgbjgaa
open Go.RowKit
set_option linter.unusedVariables false

theorem sum_val (x : UInt64) (s : ByteArray) (hs : s.size ≤ 1000000) (A : Option Addr) (len cap : Nat) (l : List Int) (hl : l.length = len) (hlen : len ≤ 1000000) (hx : H.sum s.data.toList (wv l) = x) (w : World) (hrd : Reads w w.heap.size 1 A len (iv l)) :
    Calls Try.prog 13 #[.string s, .slice A len cap] w fun e W' => e = .returned (.int .u64 (x.toNat : Int)) ∧ Below w.heap.size w W' := by
  subst hx; exact sum_any s hs A len cap l hl hlen w hrd
theorem bytes_val (x : UInt64) (s : ByteArray) (hs : s.size ≤ 1000000) (A : Option Addr) (len cap : Nat) (bs : List UInt8) (hl : bs.length = len) (hlen : len ≤ 1000000) (hx : H.bytes s.data.toList bs = x) (w : World) (hrd : Reads w w.heap.size 1 A len (bv bs)) :
    Calls Try.prog 17 #[.string s, .slice A len cap] w fun e W' => e = .returned (.int .u64 (x.toNat : Int)) ∧ Below w.heap.size w W' := by
  subst hx; exact bytes_any s hs A len cap bs hl hlen w hrd
theorem pair_val (x a b : UInt64) (p q : Int) (hp : p = (a.toNat : Int)) (hq : q = (b.toNat : Int)) (hx : H.pair a b = x) (w : World) :
    Calls Try.prog 19 #[.int .u64 p, .int .u64 q] w fun e W' => e = .returned (.int .u64 (x.toNat : Int)) ∧ Below w.heap.size w W' := by
  subst hx hp hq; exact pair_any a b w
theorem below_new {B : Nat} {w w1 : World} (o : Obj) (hB : B ≤ w.heap.size) (h : Below (w.alloc o).heap.size (w.alloc o) w1) : Below B w w1 :=
  ((Below.refl B w).alloc hB o).trans (h.mono (by simp; omega))
theorem ne_form {x y : UInt64} (h : x ≠ y) : ((x.toNat : Int) != (y.toNat : Int)) = true := by
  rw [bne_iff_ne]; intro e; exact h (UInt64.toNat_inj.1 (by omega))
theorem eq_form {x y : UInt64} (h : x ≠ y) : ((x.toNat : Int) == (y.toNat : Int)) = false := by
  rw [beq_eq_false_iff_ne]; intro e; exact h (UInt64.toNat_inj.1 (by omega))

set_option maxHeartbeats 600000 in
theorem lives_any (w : World) : Calls Try.prog 15 #[] w fun e W' => e = .returned (.bool true) ∧ Below w.heap.size w W' := by
  obtain ⟨x1, hx1⟩ : ∃ x1, H.sum [97] (wv [5]) = x1 := ⟨_, rfl⟩
  obtain ⟨x2, hx2⟩ : ∃ x2, H.sum [97] (wv [6]) = x2 := ⟨_, rfl⟩
  obtain ⟨x3, hx3⟩ : ∃ x3, H.bytes [97] [1, 2] = x3 := ⟨_, rfl⟩
  have hx4 : H.sum [97] (wv [513, 2]) = x3 := by rw [← hx3]; decide
  obtain ⟨x5, hx5⟩ : ∃ x5, H.pair 1 2 = x5 := ⟨_, rfl⟩
  obtain ⟨x6, hx6⟩ : ∃ x6, H.pair 1 3 = x6 := ⟨_, rfl⟩
  have h12 : x1 ≠ x2 := by rw [← hx1, ← hx2]; decide
  have h56 : x5 ≠ x6 := by rw [← hx5, ← hx6, Ne, H.pair_r]; decide
  have n12 := ne_form h12
  have n56 := ne_form h56
  clear h12 h56
  have H1 := Lib.hid hx1
  have H2 := Lib.hid hx2
  have H3 := Lib.hid hx3
  have H4 := Lib.hid hx4
  have H5 := Lib.hid hx5
  have H6 := Lib.hid hx6
  clear hx1 hx2 hx3 hx4 hx5 hx6
  go_enter Try.func15, Try.ntmps15
  go_wp2_with fail
  refine (sum_val x1 ⟨#[97]⟩ (by decide) _ 1 _ [5] rfl (by omega) H1.out _ (Reads.new w _ _ 1 rfl)).mono ?_
  rintro e w1 ⟨rfl, hb⟩
  have hb1 := below_new _ (Nat.le_refl _) hb
  clear hb
  go_wp2_with fail
  refine (sum_val x2 ⟨#[97]⟩ (by decide) _ 1 _ [6] rfl (by omega) H2.out _ (Reads.new w1 _ _ 1 rfl)).mono ?_
  rintro e w2 ⟨rfl, hb⟩
  have hb2 := hb1.trans (below_new _ hb1.size hb)
  clear hb hb1
  go_wp2_with fail
  refine (bytes_val x3 ⟨#[97]⟩ (by decide) _ 2 _ [1, 2] rfl (by omega) H3.out _ (Reads.new w2 _ _ 2 rfl)).mono ?_
  rintro e w3 ⟨rfl, hb⟩
  have hb3 := hb2.trans (below_new _ hb2.size hb)
  clear hb hb2
  go_wp2_with fail
  refine (sum_val x3 ⟨#[97]⟩ (by decide) _ 2 _ [513, 2] rfl (by omega) H4.out _ (Reads.new w3 _ _ 2 rfl)).mono ?_
  rintro e w4 ⟨rfl, hb⟩
  have hb4 := hb3.trans (below_new _ hb3.size hb)
  clear hb hb3
  go_wp2_with fail
  refine (pair_val x5 1 2 _ _ rfl rfl H5.out _).mono ?_
  rintro e w5 ⟨rfl, hb⟩
  have hb5 := hb4.trans (hb.mono hb4.size)
  clear hb hb4
  go_wp2_with fail
  refine (pair_val x6 1 3 _ _ rfl rfl H6.out _).mono ?_
  rintro e w6 ⟨rfl, hb⟩
  have hb6 := hb5.trans (hb.mono hb5.size)
  clear hb hb5
  go_wp2_with fail
  go_ret
  exact ⟨rfl, hb6⟩
end Go.Proofs.Ytfdcfbpflgbjgaa
