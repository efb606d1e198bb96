/- Store.Get, Lookup, Crash. -/
import Derived.Test.YtfanhbemmjcomaaStAt
namespace Go.Proofs.Ytfanhbemmjcomaa
open Go.RowKit
set_option linter.unusedVariables false

set_option maxHeartbeats 400000 in
theorem get_none (base g bo bn sy : Nat) (v : Value) (L : List S.R) (x : UInt64) (hx : S.get L x = none) (w : World) (h : StAt w base g bo bn v L sy) :
    Calls Try.prog 25 #[.pointer (some ⟨g, 0, none⟩), .int .u64 (x.toNat : Int)] w fun e w' => ∃ A c, e = .returned (.tuple #[.slice A 0 c, .bool false]) ∧ Below w.heap.size w w' := by
  have hc2 := h.four.cell2
  obtain ⟨f, hf, hfx⟩ := h.objs
  have hlk := hf.look_none Try.underlying73 (zeroSl w) ((hfx x).1 hx)
  clear h hf hfx hx
  go_enter Try.func25, Try.ntmps25
  go_wp2_with fail
  refine (clone_any none 0 0 [] (by omega) w.heap.size w (Nat.le_refl _) Reads.none_).mono ?_
  rintro e w1 ⟨v, rfl, hown, hb⟩
  obtain ⟨A, c, rfl, _, _, _⟩ := own_reads hown
  go_wp2_with fail
  go_ret2
  exact ⟨_, _, rfl, hb⟩
set_option maxHeartbeats 400000 in
theorem get_some (base g bo bn sy n : Nat) (v : Value) (L : List S.R) (x : UInt64) (b : List UInt8) (hx : S.get L x = some b) (hn : b.length = n) (w : World) (h : StAt w base g bo bn v L sy) :
    Calls Try.prog 25 #[.pointer (some ⟨g, 0, none⟩), .int .u64 (x.toNat : Int)] w fun e w' => ∃ A c, e = .returned (.tuple #[.slice A n c, .bool true]) ∧ n ≤ c ∧ w'.ownsRow w.heap.size 5 1 (.slice A n c) n (bv b) ∧ Below w.heap.size w w' := by
  have hc2 := h.four.cell2
  have hbl := h.small b (S.get_mem hx).1
  obtain ⟨f, hf, hfx⟩ := h.objs
  obtain ⟨u, hu, A, c, rfl, h1, h2, h3, h4⟩ := (hfx x).2 b hx
  have hlk := hf.look_some Try.underlying73 (zeroSl w) hu
  rw [hn] at hlk h1 h3 hbl
  clear h hf hfx hx hu h4 hn
  go_enter Try.func25, Try.ntmps25
  go_wp2_with fail
  refine (clone_any A n c b (by omega) w.heap.size w (Nat.le_refl _) h3).mono ?_
  rintro e w1 ⟨v, rfl, hown, hb⟩
  obtain ⟨A', c', rfl, hc', _, hown'⟩ := own_reads hown
  go_wp2_with fail
  go_ret2
  exact ⟨_, _, rfl, hc', hown', hb⟩
set_option maxHeartbeats 400000 in
theorem lookup_any (base g bo bn sy : Nat) (v : Value) (L : List S.R) (x k : UInt64) (b : Bool) (hx : (match S.look L x with | some j => (j, true) | none => (0, false)) = (k, b)) (w : World) (h : StAt w base g bo bn v L sy) :
    Calls Try.prog 27 #[.pointer (some ⟨g, 0, none⟩), .int .u64 (x.toNat : Int)] w fun e w' => e = .returned (.tuple #[.int .u64 (k.toNat : Int), .bool b]) ∧ w = w' := by
  have hc3 := h.four.cell3
  have hf := h.names
  clear h
  cases hl : S.look L x with
  | none =>
    rw [hl] at hx
    injection hx with h1 h2
    subst h1 h2
    have hlk := hf.look_none Try.underlying74 (zeroU64 w) (x := x) (by show (S.look L x).map _ = none; rw [hl]; rfl)
    clear hf hl
    go_enter Try.func27, Try.ntmps27
    go_wp2_with fail
    go_ret2
    exact ⟨rfl, rfl⟩
  | some j =>
    rw [hl] at hx
    injection hx with h1 h2
    subst h1 h2
    have hlk := hf.look_some Try.underlying74 (zeroU64 w) (x := x) (v := .int .u64 (j.toNat : Int)) (by show (S.look L x).map _ = _; rw [hl]; rfl)
    clear hf hl
    go_enter Try.func27, Try.ntmps27
    go_wp2_with fail
    go_ret2
    exact ⟨rfl, rfl⟩
end Go.Proofs.Ytfanhbemmjcomaa
