/- Same of two values that read alike. -/
import Derived.Test.YtkjlafklhdojmaaWireVal
namespace Go.Proofs.Ytkjlafklhdojmaa
open Go.RowKit
set_option linter.unusedVariables false

theorem IsVal.below {W W' : World} {B : Nat} {v : Value} {x : Vl} (h : IsVal W B v x) (hb : Below B W W') : IsVal W' B v x := by
  obtain ⟨A, c, A', c', h1, h2, h3⟩ := h
  exact ⟨A, c, A', c', h1, h2.below hb, h3.below hb⟩
theorem IsVal.more {W : World} {B B' : Nat} {v : Value} {x : Vl} (h : IsVal W B v x) (hb : B ≤ B') : IsVal W B' v x := by
  obtain ⟨A, c, A', c', h1, h2, h3⟩ := h
  exact ⟨A, c, A', c', h1, h2.more hb, h3.more hb⟩
theorem IsVal.later {W W' : World} {v : Value} {x : Vl} (h : IsVal W W.heap.size v x) (hb : Below W.heap.size W W') : IsVal W' W'.heap.size v x := (h.below hb).more hb.size

set_option maxHeartbeats 1000000 in
theorem same_any (v v' : Value) (x : Vl) (hx1 : x.b.length ≤ 1000000) (hx2 : x.l.length ≤ 1000000) (w : World) (h : IsVal w w.heap.size v x) (h' : IsVal w w.heap.size v' x) :
    Calls Try.prog 21 #[v, v'] w fun e w' => e = .returned (.bool true) ∧ Below w.heap.size w w' := by
  obtain ⟨A, c, A', c', rfl, hA, hA'⟩ := h
  obtain ⟨D, d, D', d', rfl, hD, hD'⟩ := h'
  obtain ⟨kind, u, n, b, l⟩ := x
  simp only at hA hA' hD hD' hx1 hx2 ⊢
  obtain ⟨kb, hkb⟩ : ∃ k, b.length = k := ⟨_, rfl⟩
  obtain ⟨kl, hkl⟩ : ∃ k, l.length = k := ⟨_, rfl⟩
  rw [hkb] at hA hD hx1 ⊢
  rw [hkl] at hA' hD' hx2 ⊢
  have HKB := Lib.hid hkb
  have HKL := Lib.hid hkl
  clear hkb hkl
  obtain ⟨W, hW⟩ : ∃ W, (w.alloc (.cells #[.int .i64 kind, .int .u64 (u.toNat : Int), .int .i64 n, .slice A kb c, .slice A' kl c'] 46)).alloc (.cells #[.int .i64 kind, .int .u64 (u.toNat : Int), .int .i64 n, .slice D kb d, .slice D' kl d'] 46) = W := ⟨_, rfl⟩
  have hbW : Below w.heap.size w W := by rw [← hW]; exact ((Below.refl _ _).alloc (Nat.le_refl _) _).alloc (by simp) _
  have hs1 := sameBytes_b true A D kb c kb d b b HKB.out HKB.out (by simp) hx1 hx1 W (hA.later hbW) (hD.later hbW)
  rw [← hW] at hs1 hbW
  clear hW
  go_enter Try.func21, Try.ntmps21
  go_wp2_with fail
  refine hs1.mono ?_
  rintro e w1 ⟨rfl, hb1⟩
  clear hs1
  have hb2 := blater hbW (Nat.le_refl _) hb1
  have hfA := ((Five.new w 46 (.int .i64 kind) (.int .u64 (u.toNat : Int)) (.int .i64 n) (.slice A kb c) (.slice A' kl c')).below ((Below.refl _ _).alloc (Nat.le_refl _) (.cells #[.int .i64 kind, .int .u64 (u.toNat : Int), .int .i64 n, .slice D kb d, .slice D' kl d'] 46))).below hb1
  have hfB := (Five.new (w.alloc (.cells #[.int .i64 kind, .int .u64 (u.toNat : Int), .int .i64 n, .slice A kb c, .slice A' kl c'] 46)) 46 (.int .i64 kind) (.int .u64 (u.toNat : Int)) (.int .i64 n) (.slice D kb d) (.slice D' kl d')).below hb1
  rw [show (w.alloc (.cells #[.int .i64 kind, .int .u64 (u.toNat : Int), .int .i64 n, .slice A kb c, .slice A' kl c'] 46)).heap.size = w.heap.size + 1 from by simp] at hfB
  have a4 := hfA.cell4
  have b4 := hfB.cell4
  have hs2 := sameInts_b true A' D' kl c' kl d' l l HKL.out HKL.out (by simp) hx2 hx2 w1 (hA'.later hb2) (hD'.later hb2)
  go_wp2_with fail
  refine hs2.mono ?_
  rintro e w2 ⟨rfl, hb3⟩
  have hb4 := blater hb2 (Nat.le_refl _) hb3
  clear hs2 hfA hfB
  go_wp2_with fail
  go_ret
  exact ⟨rfl, hb4⟩
end Go.Proofs.Ytkjlafklhdojmaa
