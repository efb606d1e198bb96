/- What lies between two blocks stays; NewIn with its frame. -/
import Derived.Test.YtkjlafklhdojmaaWireLawsT
import Derived.Test.YtkjlafklhdojmaaWirePlain3
namespace Go.Proofs.Ytkjlafklhdojmaa
open Go.RowKit
set_option linter.unusedVariables false

/-- From block b on, what W had is as it was. -/
def Mid (b : Nat) (W W' : World) : Prop := W.heap.size ≤ W'.heap.size ∧ ∀ k, b ≤ k → k < W.heap.size → W'.heap[k]? = W.heap[k]?
theorem Mid.refl (b : Nat) (W : World) : Mid b W W := ⟨Nat.le_refl _, fun _ _ _ => rfl⟩
theorem Mid.below {b B : Nat} {W W' W'' : World} (h : Mid b W W') (k : Below B W' W'') (hB : W.heap.size ≤ B) : Mid b W W'' :=
  ⟨Nat.le_trans h.1 k.size, fun i h1 h2 => (k.block i (by omega)).trans (h.2 i h1 h2)⟩
theorem Mid.only {b : Nat} {W W' W'' : World} {row : Option Nat} (h : Mid b W W') (k : W'.grownBy W'' row) (hr : ∀ r, row = some r → r < b ∨ W.heap.size ≤ r) : Mid b W W'' :=
  ⟨Nat.le_trans h.1 k.size, fun i h1 h2 => (k.block i (Nat.lt_of_lt_of_le h2 h.1) (fun e => by have := hr i e.symm; omega)).trans (h.2 i h1 h2)⟩
theorem own_mid {W W' : World} {b : Nat} {e : TypeId} {size n : Nat} {v : Value} {xs : List Value} (h : W.ownsRow b e size v n xs) (k : Mid b W W') : W'.ownsRow b e size v n xs := by
  refine ⟨h.1, ?_⟩
  rcases h.2 with h2 | ⟨g, cap, cur, h1, h2, h3, h4⟩
  · exact .inl h2
  · exact .inr ⟨g, cap, cur, h1, h2, (k.2 g h2 (Array.getElem?_eq_some_iff.1 h3).1).trans h3, h4⟩
theorem out_mid {W W' : World} {b g : Nat} {l : List UInt8} (h : OutAt W b g l) (k : Mid b W W') : OutAt W' b g l := by
  obtain ⟨h1, h2, v, h3, h4⟩ := h
  exact ⟨h1, Nat.le_trans h2 k.1, v, (k.2 g h1 h3.lt).trans h3, own_mid h4 k⟩
theorem only_own {a b : World} {B : Nat} {row : Option Nat} (h : a.grownBy b row) (hr : ∀ r, row = some r → B ≤ r) (hB : B ≤ a.heap.size) : Below B a b :=
  ⟨h.os, h.tape, h.output, h.size, fun i hi => h.block i (by omega) (fun e => by have := hr i e.symm; omega)⟩
theorem reads_mid {W W' : World} {b n : Nat} {e : TypeId} {c : Nat} {A : Option Addr} {xs : List Value} (h : W.ownsRow b e 1 (.slice A n c) n xs) (k : Mid b W W') : Reads W' W'.heap.size 1 A n xs := Reads.of_own (own_mid h k)

set_option maxHeartbeats 400000 in
theorem newIn_mid (A : Option Addr) (len cap : Nat) (bs : List UInt8) (hbl : bs.length = len) (hl : len ≤ 20000000) (w : World) (hr : Reads w w.heap.size 1 A len (bv bs)) :
    Calls Try.prog 20 #[.slice A len cap] w fun e w' => ∃ g, e = .returned (.pointer (some ⟨g, 0, none⟩)) ∧ w.heap.size ≤ g ∧ g < w'.heap.size ∧ (∀ W', Mid w.heap.size w' W' → InAt 75 W' g (bs, 0)) ∧ Below w.heap.size w w' := by
  go_enter Try.func20, Try.ntmps20
  go_wp2_with fail
  refine (clone_any A len cap bs hl w.heap.size w (Nat.le_refl _) hr).mono ?_
  rintro e w1 ⟨v, rfl, hown, hb⟩
  have hcm : ∀ A c, v = .slice A len c → c ≤ maxLen := by
    rintro A c rfl
    have := own_cap hown; unfold maxLen; omega
  obtain ⟨A1, c1, rfl, hc1, hr1, hown⟩ := own_reads hown
  go_wp2_with fail
  go_ret
  refine ⟨_, rfl, hb.size, by simp, fun W' hm => ⟨A1, c1, ?_, by show bs.length ≤ c1; omega, hcm _ _ rfl, ?_⟩, hb.alloc hb.size _⟩
  · rw [show (bs, (0 : Int)).1.length = len from hbl]
    exact (hm.2 _ hb.size (by simp)).trans (Two.new w1 75 (.slice A1 len c1) (.int .i64 0))
  · rw [show (bs, (0 : Int)).1.length = len from hbl]
    have h2 := own_mid (hown.alloc (.cells #[.slice A1 len c1, .int .i64 0] 75)) hm
    refine ⟨h2.1, fun hn => ?_⟩
    obtain ⟨ad, e, h4, h5⟩ := (Reads.of_own h2).2 hn
    obtain ⟨ad', e', h4', _⟩ := hr1.2 hn
    rw [e'] at e
    obtain rfl : ad' = ad := by injection e
    exact ⟨ad', e', h4', h5⟩
end Go.Proofs.Ytkjlafklhdojmaa
