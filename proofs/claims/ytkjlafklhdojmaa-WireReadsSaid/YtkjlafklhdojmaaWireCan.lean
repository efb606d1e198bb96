/- Rows of values beside a reader; a sequence of reads, canonical. -/
import Derived.Test.YtkjlafklhdojmaaWirePlain7
import Derived.Test.YtkjlafklhdojmaaWireValB
import Derived.Test.YtkjlafklhdojmaaWireLawsW
namespace Go.Proofs.Ytkjlafklhdojmaa
open Go.RowKit
set_option linter.unusedVariables false

theorem ValRow.turn {W W' : World} {B : Nat} {far far2 : Option Nat} {cells : List Value} {vs : List Vl} (h : ValRow W B far cells vs) (h2 : ValRow W B far2 cells vs) (hg : W.grownBy W' far2) (hB : B ≤ W.heap.size) : ValRow W' B far cells vs :=
  ⟨h.1, fun k x hk => by
    obtain ⟨A, c, A', c', h0, h1, h2', h3, h4, h5, h6, h7, h8⟩ := h.2 k x hk
    obtain ⟨D, d, D', d', _, _, _, k3, k4, _, _, k7, k8⟩ := h2.2 k x hk
    rw [h3] at k3
    rw [h4] at k4
    obtain ⟨rfl, _⟩ : A = D ∧ c = d := by injection k3 with k3; injection k3 with e1 e2 e3; exact ⟨e1, e3⟩
    obtain ⟨rfl, _⟩ : A' = D' ∧ c' = d' := by injection k4 with k4; injection k4 with e1 e2 e3; exact ⟨e1, e3⟩
    exact ⟨A, c, A', c', h0, h1, h2', h3, h4, reads_grown h5 hg hB (fun ad e => (k7 ad e).2), reads_grown h6 hg hB (fun ad e => (k8 ad e).2), h7, h8⟩⟩
theorem got_step {wr w5 W2 w6 : World} {base i g : Nat} {v v' : Value} {cells : List Value} {gs : List Vl} (hown : wr.ownsRow base 46 5 v i cells) (hA : ValRow wr wr.heap.size v.ownBlock cells gs) (hG : ValRow wr wr.heap.size (some g) cells gs) (hgl : g < wr.heap.size) (hg : wr.grownBy w5 (some g)) (hB : Below w5.heap.size w5 W2)
    (x : Vl) (A A' : Option Addr) (kb kl c c' : Nat) (hkb : x.b.length = kb) (hkl : x.l.length = kl) (r1 : Reads w5 w5.heap.size 1 A kb (bv x.b)) (r2 : Reads w5 w5.heap.size 1 A' kl (iv x.l)) (h3 : ∀ ad, A = some ad → wr.heap.size ≤ ad.block ∧ ad.block < w5.heap.size) (h4 : ∀ ad, A' = some ad → wr.heap.size ≤ ad.block ∧ ad.block < w5.heap.size)
    (hgrow : W2.grownBy w6 v.ownBlock) (hat : v'.ownBlock = v.ownBlock ∨ v'.ownBlock = some W2.heap.size) :
    ValRow w6 w6.heap.size v'.ownBlock (cells ++ [.int .i64 x.kind, .int .u64 (x.u.toNat : Int), .int .i64 x.n, .slice A kb c, .slice A' kl c']) (gs ++ [x]) ∧
    ValRow w6 w6.heap.size (some g) (cells ++ [.int .i64 x.kind, .int .u64 (x.u.toNat : Int), .int .i64 x.n, .slice A kb c, .slice A' kl c']) (gs ++ [x]) := by
  have hfar : ∀ b, wr.heap.size ≤ b → some b ≠ v.ownBlock := fun b hb e => by have := (own_from hown b e.symm).2; omega
  have hs := hB.size
  have a1 := (((hA.turn hG hg (Nat.le_refl _)).more hg.size).below hB).more hB.size
  have g1 := (((hG.grown hg (Nat.le_refl _) (.inl rfl)).more hg.size).below hB).more hB.size
  have q1 := r1.later hB
  have q2 := r2.later hB
  have a2 := a1.snoc x A A' kb kl c c' hkb hkl q1 q2 (fun ad e => ⟨Nat.lt_of_lt_of_le (h3 ad e).2 hs, hfar _ (h3 ad e).1⟩) (fun ad e => ⟨Nat.lt_of_lt_of_le (h4 ad e).2 hs, hfar _ (h4 ad e).1⟩)
  have g2 := g1.snoc x A A' kb kl c c' hkb hkl q1 q2 (fun ad e => ⟨Nat.lt_of_lt_of_le (h3 ad e).2 hs, by have := (h3 ad e).1; intro e2; injection e2 with e2; omega⟩) (fun ad e => ⟨Nat.lt_of_lt_of_le (h4 ad e).2 hs, by have := (h4 ad e).1; intro e2; injection e2 with e2; omega⟩)
  exact ⟨(a2.grown hgrow (Nat.le_refl _) hat).more hgrow.size, (g2.turn a2 hgrow (Nat.le_refl _)).more hgrow.size⟩
namespace V
/-- What was read so far, canonical while there is no error. -/
def Canon (bs : List UInt8) (s : St) (gs : List Vl) : Prop := s.2 = 0 → bs = encVs gs ++ s.1 ∧ ∀ x ∈ gs, VOk 60 x
theorem Canon.start (bs : List UInt8) : Canon bs (bs, 0) [] := fun _ => ⟨rfl, by simp⟩
theorem Canon.step {bs : List UInt8} {s : St} {gs : List Vl} {kind : Int} (hk : 0 ≤ kind ∧ kind < 4) (h : Canon bs s gs) : Canon bs (read kind 60 s).2 (gs ++ [(read kind 60 s).1]) := by
  intro h0
  obtain ⟨p, e⟩ := s
  by_cases he : e = 0
  · subst he
    obtain ⟨⟨x, rest, e2⟩, hr⟩ : ∃ r, read kind 60 (p, 0) = r := ⟨_, rfl⟩
    rw [hr] at h0 ⊢
    have h0 : e2 = 0 := h0
    subst h0
    obtain ⟨h1, h2⟩ := read_canon hk 60 (by omega) hr
    obtain ⟨h3, h4⟩ := h rfl
    refine ⟨?_, fun y hy => ?_⟩
    · rw [h3, encVs_snoc, List.append_assoc, ← h1]
    · rcases List.mem_append.1 hy with h | h
      · exact h4 y h
      · obtain rfl : y = x := by simpa using h
        exact h2
  · rw [read_err kind 60 he] at h0
    exact absurd h0 he
theorem Canon.done {bs : List UInt8} {s : St} {gs : List Vl} (h : Canon bs s gs) (hf : fin s = 0) : encVs gs = bs ∧ ∀ x ∈ gs, VOk 60 x := by
  obtain ⟨p, e⟩ := s
  unfold fin at hf
  by_cases hc : e = 0 ∧ p ≠ []
  · rw [if_pos hc] at hf; exact absurd hf (by decide)
  · rw [if_neg hc] at hf
    have he : e = 0 := hf
    obtain ⟨h1, h2⟩ := h he
    have hp : p = [] := by
      cases p with
      | nil => rfl
      | cons b p => exact absurd ⟨he, by simp⟩ hc
    rw [hp] at h1
    exact ⟨by rw [h1, List.append_nil], h2⟩
end V
end Go.Proofs.Ytkjlafklhdojmaa
