/- Rows of values; the reference's Vals. -/
import Derived.Test.YtkjlafklhdojmaaWireLawsN
import Derived.Deep.RegionHeld3
import Derived.Deep.AppendLies
import Derived.Deep.RegionLaw
namespace Go.Proofs.Ytkjlafklhdojmaa
open Go.RowKit
set_option linter.unusedVariables false

def inr (n : Int) : Prop := -9223372036854775808 ≤ n ∧ n ≤ 9223372036854775807
/-- A value of its kind, of at most m elements. -/
def VOk (m : Nat) (x : Vl) : Prop :=
  (x.kind = 0 ∧ x.n = 0 ∧ x.b = [] ∧ x.l = []) ∨ (x.kind = 1 ∧ x.u = 0 ∧ inr x.n ∧ x.b = [] ∧ x.l = []) ∨
  (x.kind = 2 ∧ x.u = 0 ∧ x.n = 0 ∧ x.b.length ≤ m ∧ x.l = []) ∨ (x.kind = 3 ∧ x.u = 0 ∧ x.n = 0 ∧ x.b = [] ∧ x.l.length ≤ m ∧ ∀ n ∈ x.l, inr n)
/-- The cells of a row of values; what they lead to does not lie in block far. -/
def ValRow (W : World) (B : Nat) (far : Option Nat) (cells : List Value) (vs : List Vl) : Prop :=
  cells.length = vs.length * 5 ∧ ∀ k x, vs[k]? = some x → ∃ A c A' c', cells[5 * k]? = some (.int .i64 x.kind) ∧ cells[5 * k + 1]? = some (.int .u64 (x.u.toNat : Int)) ∧ cells[5 * k + 2]? = some (.int .i64 x.n) ∧
    cells[5 * k + 3]? = some (.slice A x.b.length c) ∧ cells[5 * k + 4]? = some (.slice A' x.l.length c') ∧ Reads W B 1 A x.b.length (bv x.b) ∧ Reads W B 1 A' x.l.length (iv x.l) ∧
    (∀ ad, A = some ad → ad.block < B ∧ some ad.block ≠ far) ∧ (∀ ad, A' = some ad → ad.block < B ∧ some ad.block ≠ far)
theorem ValRow.nil (W : World) (B : Nat) (far : Option Nat) : ValRow W B far [] [] := ⟨rfl, fun k x h => by simp at h⟩
theorem ValRow.below {W W' : World} {B : Nat} {far : Option Nat} {cells : List Value} {vs : List Vl} (h : ValRow W B far cells vs) (hb : Below B W W') : ValRow W' B far cells vs :=
  ⟨h.1, fun k x hk => by
    obtain ⟨A, c, A', c', h0, h1, h2, h3, h4, h5, h6, h7⟩ := h.2 k x hk
    exact ⟨A, c, A', c', h0, h1, h2, h3, h4, h5.below hb, h6.below hb, h7⟩⟩
theorem ValRow.more {W : World} {B B' : Nat} {far : Option Nat} {cells : List Value} {vs : List Vl} (h : ValRow W B far cells vs) (hb : B ≤ B') : ValRow W B' far cells vs :=
  ⟨h.1, fun k x hk => by
    obtain ⟨A, c, A', c', h0, h1, h2, h3, h4, h5, h6, h7⟩ := h.2 k x hk
    exact ⟨A, c, A', c', h0, h1, h2, h3, h4, h5.more hb, h6.more hb, fun ad e => ⟨Nat.lt_of_lt_of_le (h7.1 ad e).1 hb, (h7.1 ad e).2⟩, fun ad e => ⟨Nat.lt_of_lt_of_le (h7.2 ad e).1 hb, (h7.2 ad e).2⟩⟩⟩
theorem reads_grown {W W' : World} {B n : Nat} {A : Option Addr} {xs : List Value} {row : Option Nat} (h : Reads W B 1 A n xs) (hg : W.grownBy W' row) (hB : B ≤ W.heap.size) (hf : ∀ ad, A = some ad → some ad.block ≠ row) : Reads W' B 1 A n xs :=
  ⟨h.1, fun hn => by
    obtain ⟨ad, e, hb, hc⟩ := h.2 hn
    refine ⟨ad, e, hb, fun j u hu => ?_⟩
    rw [← hc j u hu]
    refine World.cell?_of_block ?_
    rw [block_of_add]
    exact hg.block _ (by omega) (hf ad e)⟩
/-- The row grows: what its cells lead to stays. -/
theorem ValRow.grown {W W' : World} {B : Nat} {far far' : Option Nat} {cells : List Value} {vs : List Vl} (h : ValRow W B far cells vs) (hg : W.grownBy W' far) (hB : B ≤ W.heap.size) (hf : far' = far ∨ far' = some W.heap.size) : ValRow W' B far' cells vs :=
  ⟨h.1, fun k x hk => by
    obtain ⟨A, c, A', c', h0, h1, h2, h3, h4, h5, h6, h7, h8⟩ := h.2 k x hk
    refine ⟨A, c, A', c', h0, h1, h2, h3, h4, reads_grown h5 hg hB (fun ad e => (h7 ad e).2), reads_grown h6 hg hB (fun ad e => (h8 ad e).2), fun ad e => ⟨(h7 ad e).1, ?_⟩, fun ad e => ⟨(h8 ad e).1, ?_⟩⟩
    · rcases hf with e1 | e1
      · rw [e1]; exact (h7 ad e).2
      · rw [e1]; have := (h7 ad e).1; intro e2; injection e2 with e2; omega
    · rcases hf with e1 | e1
      · rw [e1]; exact (h8 ad e).2
      · rw [e1]; have := (h8 ad e).1; intro e2; injection e2 with e2; omega⟩
theorem ValRow.snoc {W : World} {B : Nat} {far : Option Nat} {cells : List Value} {vs : List Vl} (h : ValRow W B far cells vs) (x : Vl) (A A' : Option Addr) (kb kl c c' : Nat) (hkb : x.b.length = kb) (hkl : x.l.length = kl) (h1 : Reads W B 1 A kb (bv x.b)) (h2 : Reads W B 1 A' kl (iv x.l))
    (h3 : ∀ ad, A = some ad → ad.block < B ∧ some ad.block ≠ far) (h4 : ∀ ad, A' = some ad → ad.block < B ∧ some ad.block ≠ far) :
    ValRow W B far (cells ++ [.int .i64 x.kind, .int .u64 (x.u.toNat : Int), .int .i64 x.n, .slice A kb c, .slice A' kl c']) (vs ++ [x]) := by
  subst hkb hkl
  refine ⟨by simp [h.1]; omega, fun k y hk => ?_⟩
  by_cases hlt : k < vs.length
  · rw [List.getElem?_append_left hlt] at hk
    have hl := h.1
    obtain ⟨A, c, A', c', g0, g1, g2, g3, g4, g5⟩ := h.2 k y hk
    exact ⟨A, c, A', c', by rw [List.getElem?_append_left (by omega)]; exact g0, by rw [List.getElem?_append_left (by omega)]; exact g1, by rw [List.getElem?_append_left (by omega)]; exact g2, by rw [List.getElem?_append_left (by omega)]; exact g3, by rw [List.getElem?_append_left (by omega)]; exact g4, g5⟩
  · have hk2 : k = vs.length := by
      have := (List.getElem?_eq_some_iff.1 hk).1
      simp at this; omega
    subst hk2
    have hl := h.1
    have hy : x = y := by simpa using hk
    subst hy
    have e0 : 5 * vs.length = cells.length := by omega
    refine ⟨A, c, A', c', ?_, ?_, ?_, ?_, ?_, h1, h2, h3, h4⟩
    · rw [e0, List.getElem?_append_right (Nat.le_refl _)]; simp
    · rw [e0, List.getElem?_append_right (by omega)]; simp
    · rw [e0, List.getElem?_append_right (by omega)]; simp
    · rw [e0, List.getElem?_append_right (by omega)]; simp
    · rw [e0, List.getElem?_append_right (by omega)]; simp
/-- The slice v of the call's own holds the values vs. -/
def ValsAt (W : World) (base : Nat) (v : Value) (vs : List Vl) : Prop := ∃ cells, W.ownsRow base 46 5 v vs.length cells ∧ ValRow W W.heap.size v.ownBlock cells vs
theorem ValsAt.later {W W' : World} {base : Nat} {v : Value} {vs : List Vl} (h : ValsAt W base v vs) (hb : Below W.heap.size W W') : ValsAt W' base v vs := by
  obtain ⟨cells, h1, h2⟩ := h
  exact ⟨cells, own_below h1 hb, (h2.below hb).more hb.size⟩
theorem infoVal : (Try.prog.info? 46).map (fun i => (i.zero, i.size, i.bytes)) = some (some (.agg #[.int .i64 0, .int .u64 0, .int .i64 0, .slice none 0 0, .slice none 0 0]), 5, 72) := by kernel_rfl
end Go.Proofs.Ytkjlafklhdojmaa
