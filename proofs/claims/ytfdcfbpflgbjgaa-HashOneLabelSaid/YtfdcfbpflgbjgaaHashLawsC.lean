/- The walks of HashArguments, HashGroups, HashOneGroup. -/
import Derived.Test.YtfdcfbpflgbjgaaHashLawsB
namespace Go.Proofs.Ytfdcfbpflgbjgaa
open Go.RowKit
set_option linter.unusedVariables false

theorem below_drewN' {B : Nat} {a w : World} (h : Below B a w) (n : Nat) : Below B a (w.drewN n) := ⟨h.os, h.tape, h.output, h.size, h.block⟩
theorem sameBytes_b (b : Bool) (A A' : Option Addr) (len cap len' cap' : Nat) (l l' : List UInt8) (hl : l.length = len) (hl' : l'.length = len') (hb : b = decide (l = l')) (hs : len ≤ 1000000) (hs' : len' ≤ 1000000) (w : World) (hrd : Reads w w.heap.size 1 A len (bv l)) (hrd' : Reads w w.heap.size 1 A' len' (bv l')) :
    Calls Try.prog 22 #[.slice A len cap, .slice A' len' cap'] w fun e w' => e = .returned (.bool b) ∧ Below w.heap.size w w' :=
  (sameBytes_any b A A' len cap len' cap' l l' hl hl' hb (by omega) (by omega) w.heap.size w hrd hrd').mono fun e w' ⟨he, n, hn⟩ => ⟨he, by rw [hn]; exact below_drewN' (Below.refl _ _) n⟩
theorem sameInts_b (b : Bool) (A A' : Option Addr) (len cap len' cap' : Nat) (l l' : List Int) (hl : l.length = len) (hl' : l'.length = len') (hb : b = decide (l = l')) (hs : len ≤ 1000000) (hs' : len' ≤ 1000000) (w : World) (hrd : Reads w w.heap.size 1 A len (iv l)) (hrd' : Reads w w.heap.size 1 A' len' (iv l')) :
    Calls Try.prog 24 #[.slice A len cap, .slice A' len' cap'] w fun e w' => e = .returned (.bool b) ∧ Below w.heap.size w w' :=
  (sameInts_any b A A' len cap len' cap' l l' hl hl' hb (by omega) (by omega) w.heap.size w hrd hrd').mono fun e w' ⟨he, n, hn⟩ => ⟨he, by rw [hn]; exact below_drewN' (Below.refl _ _) n⟩
theorem Reads.later {w w' : World} {size n : Nat} {A : Option Addr} {xs : List Value} (h : Reads w w.heap.size size A n xs) (hb : Below w.heap.size w w') : Reads w' w'.heap.size size A n xs := (h.below hb).more hb.size
theorem blater {B : Nat} {a w w' : World} (h : Below B a w) (hB : B ≤ a.heap.size) (k : Below w.heap.size w w') : Below B a w' := h.trans (k.mono (Nat.le_trans hB h.size))
theorem own_below {w w' : World} {base : Nat} {e : TypeId} {size n : Nat} {v : Value} {xs : List Value} (h : w.ownsRow base e size v n xs) (hb : Below w.heap.size w w') : w'.ownsRow base e size v n xs := by
  refine h.kept (row := none) ⟨hb.os, hb.tape, hb.output, hb.size, fun i hi _ => hb.block i hi⟩ ?_
  rcases h.2 with ⟨rfl, _⟩ | ⟨g, cap, cur, rfl, _⟩
  · exact .inl rfl
  · exact .inr (by simp [Value.ownBlock])
theorem own_cap {w : World} {base : Nat} {e : TypeId} {size n c : Nat} {A : Option Addr} {xs : List Value} (h : w.ownsRow base e size (.slice A n c) n xs) : c ≤ 9223372036854775807 := by
  rcases h.2 with ⟨h', _⟩ | ⟨g, cap, cur, h', _, _, _, hcm, _⟩
  · injection h' with _ _ h3; omega
  · injection h' with _ _ h3; unfold maxLen at hcm; omega
theorem bv_snoc0 (l : List UInt8) : bv l ++ [.int .u8 0] = bv (l ++ [0]) := by simp [bv]

set_option maxHeartbeats 2000000 in
theorem hashArguments_walk (a0 : Option Addr) (len0 cap0 : Nat) (z0 : List Int) (a1 : Option Addr) (len1 cap1 : Nat) (z1 : List Int) (w : World) (w0 : IsRow .i64 w a0 len0 cap0 z0) (w1 : IsRow .u8 w a1 len1 cap1 z1) :
    Calls Try.prog 10 #[.slice a0 len0 cap0, .slice a1 len1 cap1] w fun e w' => e = .returned (.bool true) ∧ Below w.heap.size w w' := by
  obtain ⟨l, hl, hc, hm, hr, _⟩ := isRow_ints w0
  obtain ⟨bs, hl', hc', hm', hr'⟩ := isRow_bytes w1
  clear w0 w1
  obtain ⟨m, hm2⟩ : ∃ m, (l.take 10).length = m := ⟨_, rfl⟩
  have hm10 : m ≤ 10 := by rw [← hm2, List.length_take]; omega
  have hc1 := ints_reads a0 len0 cap0 10 l m hl hc hm (by omega) hm2
  obtain ⟨q, hq2⟩ : ∃ q, (bs.take 30).length = q := ⟨_, rfl⟩
  have hq30 : q ≤ 30 := by rw [← hq2, List.length_take]; omega
  have hd1 := few_reads a1 len1 cap1 30 bs q hl' hc' hm' (by omega) hq2
  have HML := Lib.hid hm2
  have HQL := Lib.hid hq2
  clear hl hm2 hl' hq2
  obtain ⟨x, hx⟩ : ∃ x, H.sum [115, 97, 109, 101] (wv (l.take 10)) = x := ⟨_, rfl⟩
  have HX := Lib.hid hx
  obtain ⟨y, hy⟩ : ∃ y, H.bytes [115, 97, 109, 101] (bs.take 30) = y := ⟨_, rfl⟩
  have HY := Lib.hid hy
  clear hx hy
  go_enter Try.func10, Try.ntmps10
  go_wp2_with fail
  refine (hc1 _ hr).mono ?_
  rintro e w2 ⟨A2, c2, rfl, hc2, hown, hb⟩
  have hr2 := Reads.of_own hown
  clear hown
  go_wp2_with fail
  refine (hd1 _ (hr'.later hb)).mono ?_
  rintro e w3 ⟨A3, c3, rfl, hc3, hown, hb'⟩
  have hr3 := Reads.of_own hown
  have hr2' := hr2.later hb'
  have hb3 := blater hb (Nat.le_refl _) hb'
  clear hown hb hb' hr2
  go_wp2_with fail
  refine (sum_val x ⟨#[115, 97, 109, 101]⟩ (by decide) _ _ _ _ HML.out (by omega) HX.out _ hr2').mono ?_
  rintro e w4 ⟨rfl, hb'⟩
  have hb4 := blater hb3 (Nat.le_refl _) hb'
  have hr2 := hr2'.later hb'
  have hr4 := hr3.later hb'
  clear hb3 hr2' hr3 hb'
  go_wp2_with fail
  refine (bytes_val y ⟨#[115, 97, 109, 101]⟩ (by decide) _ _ _ _ HQL.out (by omega) HY.out _ hr4).mono ?_
  rintro e w5 ⟨rfl, hb'⟩
  have hb5 := blater hb4 (Nat.le_refl _) hb'
  have hr2' := hr2.later hb'
  have hr5 := hr4.later hb'
  clear hb4 hr2 hr4 hb'
  go_wp2_with fail
  refine (hc1 _ (hr.later hb5)).mono ?_
  rintro e w6 ⟨A4, c4, rfl, hc4, hown, hb'⟩
  have hb6 := blater hb5 (Nat.le_refl _) hb'
  have hr2 := hr2'.later hb'
  have hr6 := hr5.later hb'
  have hr4 := Reads.of_own hown
  clear hb5 hr2' hr5 hb' hown
  go_wp2_with fail
  refine (sameInts_b true _ _ _ _ _ _ _ _ HML.out HML.out (by simp) (by omega) (by omega) _ hr2 hr4).mono ?_
  rintro e w7 ⟨rfl, hb'⟩
  have hb7 := blater hb6 (Nat.le_refl _) hb'
  have hr2' := hr2.later hb'
  have hr7 := hr6.later hb'
  clear hb6 hr2 hr6 hr4 hb'
  go_wp2_with fail
  refine (hd1 _ (hr'.later hb7)).mono ?_
  rintro e w8 ⟨A5, c5, rfl, hc5, hown, hb'⟩
  have hb8 := blater hb7 (Nat.le_refl _) hb'
  have hr2 := hr2'.later hb'
  have hr8 := hr7.later hb'
  have hr5 := Reads.of_own hown
  clear hb7 hr2' hr7 hb' hown
  go_wp2_with fail
  refine (sameBytes_b true _ _ _ _ _ _ _ _ HQL.out HQL.out (by simp) (by omega) (by omega) _ hr8 hr5).mono ?_
  rintro e w9 ⟨rfl, hb'⟩
  have hb9 := blater hb8 (Nat.le_refl _) hb'
  have hr2' := hr2.later hb'
  have hr9 := hr8.later hb'
  clear hb8 hr2 hr8 hr5 hb'
  go_wp2_with fail
  refine (sum_val x ⟨#[115, 97, 109, 101]⟩ (by decide) _ _ _ _ HML.out (by omega) HX.out _ hr2').mono ?_
  rintro e w10 ⟨rfl, hb'⟩
  have hb10 := blater hb9 (Nat.le_refl _) hb'
  have hr10 := hr9.later hb'
  clear hb9 hr2' hr9 hb'
  go_wp2_with fail
  refine (bytes_val y ⟨#[115, 97, 109, 101]⟩ (by decide) _ _ _ _ HQL.out (by omega) HY.out _ hr10).mono ?_
  rintro e w11 ⟨rfl, hb'⟩
  have hb11 := blater hb10 (Nat.le_refl _) hb'
  clear hb10 hr10 hb'
  go_wp2_with fail
  refine (lives_any _).mono ?_
  rintro e w12 ⟨rfl, hb'⟩
  have hb12 := blater hb11 (Nat.le_refl _) hb'
  clear hb11 hb'
  go_wp2_with fail
  go_ret
  exact ⟨rfl, hb12⟩

end Go.Proofs.Ytfdcfbpflgbjgaa
