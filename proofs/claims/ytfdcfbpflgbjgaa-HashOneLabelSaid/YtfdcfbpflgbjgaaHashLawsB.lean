/- The walks of HashBytes, HashPairs, HashArguments. -/
import Derived.Test.YtfdcfbpflgbjgaaHashLaws
namespace Go.Proofs.Ytfdcfbpflgbjgaa
open Go.RowKit
set_option linter.unusedVariables false

/-- A uint64 that came in. -/
theorem wf_u64 {n : Int} (h : (Lit.int .u64 n).wf = true) : ∃ x : UInt64, n = (x.toNat : Int) := by
  have hx : 0 ≤ n ∧ n ≤ 18446744073709551615 := by simpa [Lit.wf, IntKind.min, IntKind.max, IntKind.signed, IntKind.bits] using h
  exact ⟨UInt64.ofNat n.toNat, by rw [H.ofNat_toNat (by omega)]; omega⟩

/-- Few, its result written out. -/
theorem few_reads (A : Option Addr) (len cap m : Nat) (l : List UInt8) (k : Nat) (hl : l.length = len) (hc : len ≤ cap) (hcap : cap ≤ 9223372036854775807) (hm : m ≤ 1000000) (hk : (l.take m).length = k) (w : World) (hrd : Reads w w.heap.size 1 A len (bv l)) :
    Calls Try.prog 16 #[.slice A len cap, .int .i64 (m : Int)] w fun e w' => ∃ A' c', e = .returned (.slice A' k c') ∧ k ≤ c' ∧ w'.ownsRow w.heap.size 5 1 (.slice A' k c') k (bv (l.take m)) ∧ Below w.heap.size w w' := by
  have e : min len m = k := by rw [← hk, List.length_take, hl]; omega
  refine (few_any A len cap m l hl hc hcap hm w hrd).mono ?_
  rintro e w' ⟨v, rfl, hown, hb⟩
  rw [e] at hown
  obtain ⟨A2, c2, rfl, hc2, _, _⟩ := own_reads hown
  exact ⟨A2, c2, rfl, hc2, hown, hb⟩
theorem ints_reads (A : Option Addr) (len cap m : Nat) (l : List Int) (k : Nat) (hl : l.length = len) (hc : len ≤ cap) (hcap : cap ≤ 9223372036854775807) (hm : m ≤ 1000000) (hk : (l.take m).length = k) (w : World) (hrd : Reads w w.heap.size 1 A len (iv l)) :
    Calls Try.prog 12 #[.slice A len cap, .int .i64 (m : Int)] w fun e w' => ∃ A' c', e = .returned (.slice A' k c') ∧ k ≤ c' ∧ w'.ownsRow w.heap.size 3 1 (.slice A' k c') k (iv (l.take m)) ∧ Below w.heap.size w w' := by
  have e : min len m = k := by rw [← hk, List.length_take, hl]; omega
  refine (ints_any A len cap m l hl hc hcap hm w hrd).mono ?_
  rintro e w' ⟨v, rfl, hown, hb⟩
  rw [e] at hown
  obtain ⟨A2, c2, rfl, hc2, _, _⟩ := own_reads hown
  exact ⟨A2, c2, rfl, hc2, hown, hb⟩
theorem rpair_val (x a b : UInt64) (p q : Int) (hp : p = (a.toNat : Int)) (hq : q = (b.toNat : Int)) (hx : H.pair a b = x) (w : World) :
    Calls Try.prog 20 #[.int .u64 p, .int .u64 q] w fun e W' => e = .returned (.int .u64 (x.toNat : Int)) ∧ Below w.heap.size w W' := by
  subst hx hp hq; exact rpair_any a b w

set_option maxHeartbeats 1000000 in
theorem hashBytes_walk (a0 : ByteArray) (a1 : Option Addr) (len1 cap1 : Nat) (z1 : List Int) (a2 a3 : Int) (w : World) (w0 : a0.size ≤ maxLen) (w1 : IsRow .u8 w a1 len1 cap1 z1) (w2 : (Lit.int .u64 a2).wf = true) (w3 : (Lit.int .u64 a3).wf = true) :
    Calls Try.prog 4 #[.string a0, .slice a1 len1 cap1, .int .u64 a2, .int .u64 a3] w fun e w' => e = .returned (.bool true) ∧ Below w.heap.size w w' := by
  obtain ⟨l, hl, hc, hm, hr⟩ := isRow_bytes w1
  obtain ⟨p, rfl⟩ := wf_u64 w2
  obtain ⟨q, rfl⟩ := wf_u64 w3
  clear w1 w2 w3
  obtain ⟨m, hm2⟩ : ∃ m, (l.take 60).length = m := ⟨_, rfl⟩
  have hm60 : m ≤ 60 := by rw [← hm2, List.length_take]; omega
  have hc1 := few_reads a1 len1 cap1 60 l m hl hc hm (by omega) hm2
  have HML := Lib.hid hm2
  clear hl hm2
  obtain ⟨y, hy⟩ : ∃ y, H.pair p q = y := ⟨_, rfl⟩
  have HY := Lib.hid hy
  clear hy
  go_enter Try.func4, Try.ntmps4
  go_wp2_with fail
  refine (short_any a0 20 w0 (by omega) _).mono ?_
  rintro e w' ⟨⟨s, rfl, hs, _⟩, rfl⟩
  obtain ⟨x, hx⟩ : ∃ x, H.bytes s.data.toList (l.take 60) = x := ⟨_, rfl⟩
  have HX := Lib.hid hx
  clear hx
  go_wp2_with fail
  refine (hc1 _ hr).mono ?_
  rintro e w2 ⟨A2, c2, rfl, hc2, hown, hb2⟩
  clear hc1
  have hr2 := Reads.of_own hown
  clear hown
  go_wp2_with fail
  refine (bytes_val x s (by omega) _ _ _ _ HML.out (by omega) HX.out _ hr2).mono ?_
  rintro e w3 ⟨rfl, hb3⟩
  have hr3 := (hr2.below hb3).more hb3.size
  have hb := hb2.trans (hb3.mono hb2.size)
  clear hr2 hb2 hb3
  go_wp2_with fail
  refine (rbytes_val x s (by omega) _ _ _ _ HML.out (by omega) HX.out _ hr3).mono ?_
  rintro e w4 ⟨rfl, hb4⟩
  have hb' := hb.trans (hb4.mono hb.size)
  clear hr3 hb hb4
  go_wp2_with fail
  refine (pair_val y p q _ _ rfl rfl HY.out _).mono ?_
  rintro e w5 ⟨rfl, hb5⟩
  have hb5' := hb'.trans (hb5.mono hb'.size)
  clear hb' hb5
  go_wp2_with fail
  refine (rpair_val y p q _ _ rfl rfl HY.out _).mono ?_
  rintro e w6 ⟨rfl, hb6⟩
  have hb6' := hb5'.trans (hb6.mono hb5'.size)
  clear hb5' hb6
  go_wp2_with fail
  refine (lives_any _).mono ?_
  rintro e w7 ⟨rfl, hb7⟩
  have hb7' := hb6'.trans (hb7.mono hb6'.size)
  clear hb6' hb7
  go_wp2_with fail
  go_ret
  exact ⟨rfl, hb7'⟩

set_option maxHeartbeats 2000000 in
theorem hashPairs_walk (a0 a1 a2 : Int) (w : World) (w0 : (Lit.int .u64 a0).wf = true) (w1 : (Lit.int .u64 a1).wf = true) (w2 : (Lit.int .u64 a2).wf = true) :
    Calls Try.prog 9 #[.int .u64 a0, .int .u64 a1, .int .u64 a2] w fun e w' => e = .returned (.bool true) ∧ Below w.heap.size w w' := by
  obtain ⟨a, rfl⟩ := wf_u64 w0
  obtain ⟨b, rfl⟩ := wf_u64 w1
  obtain ⟨c, rfl⟩ := wf_u64 w2
  clear w0 w1 w2
  obtain ⟨x1, hx1⟩ : ∃ x, H.pair a c = x := ⟨_, rfl⟩
  obtain ⟨x2, hx2⟩ : ∃ x, H.pair b c = x := ⟨_, rfl⟩
  obtain ⟨x3, hx3⟩ : ∃ x, H.pair c a = x := ⟨_, rfl⟩
  obtain ⟨x4, hx4⟩ : ∃ x, H.pair c b = x := ⟨_, rfl⟩
  obtain ⟨x5, hx5⟩ : ∃ x, H.pair a b = x := ⟨_, rfl⟩
  have hx6 : H.sum [112, 97, 105, 114] (wv [wrap64 (a.toNat : Int), wrap64 (b.toNat : Int)]) = x5 := by
    rw [show wv [wrap64 (a.toNat : Int), wrap64 (b.toNat : Int)] = [a, b] by simp [wv, ofInt_wrap], ← hx5]; rfl
  have H1 := Lib.hid hx1
  have H2 := Lib.hid hx2
  have H3 := Lib.hid hx3
  have H4 := Lib.hid hx4
  have H5 := Lib.hid hx5
  have H6 := Lib.hid hx6
  by_cases hab : a = b
  · subst hab
    obtain rfl : x1 = x2 := hx1.symm.trans hx2
    obtain rfl : x3 = x4 := hx3.symm.trans hx4
    clear hx1 hx2 hx3 hx4 hx5 hx6
    go_enter Try.func9, Try.ntmps9
    go_wp2_with fail
    refine (pair_val x1 a c _ _ rfl rfl H1.out _).mono ?_
    rintro e w1 ⟨rfl, hb⟩
    go_wp2_with fail
    refine (pair_val x1 a c _ _ rfl rfl H1.out _).mono ?_
    rintro e w2 ⟨rfl, hb'⟩
    have hb2 := hb.trans (hb'.mono hb.size)
    clear hb hb'
    go_wp2_with fail
    refine (pair_val x3 c a _ _ rfl rfl H3.out _).mono ?_
    rintro e w3 ⟨rfl, hb'⟩
    have hb3 := hb2.trans (hb'.mono hb2.size)
    clear hb2 hb'
    go_wp2_with fail
    refine (pair_val x3 c a _ _ rfl rfl H3.out _).mono ?_
    rintro e w4 ⟨rfl, hb'⟩
    have hb4 := hb3.trans (hb'.mono hb3.size)
    clear hb3 hb'
    go_wp2_with fail
    refine (pair_val x5 a a _ _ rfl rfl H5.out _).mono ?_
    rintro e w5 ⟨rfl, hb'⟩
    have hb5 := hb4.trans (hb'.mono hb4.size)
    clear hb4 hb'
    go_wp2_with fail
    refine (sum_val x5 ⟨#[112, 97, 105, 114]⟩ (by decide) _ 2 _ [wrap64 (a.toNat : Int), wrap64 (a.toNat : Int)] rfl (by omega) H6.out _ (Reads.new w5 _ _ 2 rfl)).mono ?_
    rintro e w6 ⟨rfl, hb'⟩
    have hb6 := hb5.trans (below_new _ hb5.size hb')
    clear hb5 hb'
    go_wp2_with fail
    refine (lives_any _).mono ?_
    rintro e w7 ⟨rfl, hb'⟩
    have hb7 := hb6.trans (hb'.mono hb6.size)
    clear hb6 hb'
    go_wp2_with fail
    go_ret
    exact ⟨rfl, hb7⟩
  · have n0 := eq_form hab
    have n1 := eq_form (x := x1) (y := x2) (by rw [← hx1, ← hx2, Ne, H.pair_l]; exact hab)
    have n2 := eq_form (x := x3) (y := x4) (by rw [← hx3, ← hx4, Ne, H.pair_r]; exact hab)
    clear hx1 hx2 hx3 hx4 hx5 hx6 hab
    go_enter Try.func9, Try.ntmps9
    go_wp2_with fail
    refine (pair_val x1 a c _ _ rfl rfl H1.out _).mono ?_
    rintro e w1 ⟨rfl, hb⟩
    go_wp2_with fail
    refine (pair_val x2 b c _ _ rfl rfl H2.out _).mono ?_
    rintro e w2 ⟨rfl, hb'⟩
    have hb2 := hb.trans (hb'.mono hb.size)
    clear hb hb'
    go_wp2_with fail
    refine (pair_val x3 c a _ _ rfl rfl H3.out _).mono ?_
    rintro e w3 ⟨rfl, hb'⟩
    have hb3 := hb2.trans (hb'.mono hb2.size)
    clear hb2 hb'
    go_wp2_with fail
    refine (pair_val x4 c b _ _ rfl rfl H4.out _).mono ?_
    rintro e w4 ⟨rfl, hb'⟩
    have hb4 := hb3.trans (hb'.mono hb3.size)
    clear hb3 hb'
    go_wp2_with fail
    refine (pair_val x5 a b _ _ rfl rfl H5.out _).mono ?_
    rintro e w5 ⟨rfl, hb'⟩
    have hb5 := hb4.trans (hb'.mono hb4.size)
    clear hb4 hb'
    go_wp2_with fail
    refine (sum_val x5 ⟨#[112, 97, 105, 114]⟩ (by decide) _ 2 _ [wrap64 (a.toNat : Int), wrap64 (b.toNat : Int)] rfl (by omega) H6.out _ (Reads.new w5 _ _ 2 rfl)).mono ?_
    rintro e w6 ⟨rfl, hb'⟩
    have hb6 := hb5.trans (below_new _ hb5.size hb')
    clear hb5 hb'
    go_wp2_with fail
    refine (lives_any _).mono ?_
    rintro e w7 ⟨rfl, hb'⟩
    have hb7 := hb6.trans (hb'.mono hb6.size)
    clear hb6 hb'
    go_wp2_with fail
    go_ret
    exact ⟨rfl, hb7⟩
end Go.Proofs.Ytfdcfbpflgbjgaa
