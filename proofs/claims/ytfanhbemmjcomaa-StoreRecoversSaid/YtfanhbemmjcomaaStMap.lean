/- Maps keyed by uint64 whose elements are any values: a block that reads as a function. -/
import Derived.Test.YtfanhbemmjcomaaRows
import Derived.Test.YtfanhbemmjcomaaWireLives
import Derived.Test.YtfanhbemmjcomaaStPlain
import Derived.Maps.OwnSet
namespace Go.Proofs.Ytfanhbemmjcomaa
open Go.RowKit Go.Maps
set_option linter.unusedVariables false

theorem keyed64 : Keyed Try.prog 23 := int_keyed Try.underlying23
theorem key64 (x : UInt64) : keyOf Try.prog 23 (.int .u64 (x.toNat : Int)) = some (.int .u64 (x.toNat : Int)) :=
  keyOf_int_mk Try.underlying23 (by have := x.toNat_lt; simp [Lit.wf, IntKind.min, IntKind.max, IntKind.signed, IntKind.bits]; omega)
/-- An element, taken as it stands. -/
def heldV (v : Value) : Option (DataW Value × List MemPlace) := some (.held v, [])
theorem heldV_inv {u v : Value} {ps : List MemPlace} (h : heldV u = some (.held v, ps)) : u = v := by
  have h1 : (some ((DataW.held u : DataW Value), ([] : List MemPlace))) = some (.held v, ps) := h
  have h2 := Option.some.inj h1
  have h3 : (DataW.held u : DataW Value) = .held v := congrArg Prod.fst h2
  exact DataW.held.inj h3
/-- Block b is a map of at most n entries that reads as f. -/
def MapAt (w : World) (b n : Nat) (f : UInt64 → Option Value) : Prop :=
  ∃ D : DataW Value, w.ownsMap Try.prog 23 heldV b n D ∧ ∀ x : UInt64, (f x = none → has D (.int .u64 (x.toNat : Int)) = false) ∧ ∀ v, f x = some v → has D (.int .u64 (x.toNat : Int)) = true ∧ ∀ z, D.atKey (.int .u64 (x.toNat : Int)) z = .held v
section
variable {w w' : World} {b n : Nat} {f : UInt64 → Option Value}
theorem MapAt.made (w : World) : MapAt (w.alloc (.map #[] 0)) w.heap.size 0 (fun _ => none) :=
  ⟨_, World.ownsMap_made w _ _ _, fun x => ⟨fun _ => rfl, fun v h => by cases h⟩⟩
theorem MapAt.lt (h : MapAt w b n f) : b < w.heap.size := by obtain ⟨D, h, _⟩ := h; exact h.lt
theorem MapAt.kept {row : Option Nat} (h : MapAt w b n f) (hg : w.grownBy w' row) (hne : some b ≠ row) : MapAt w' b n f := by
  obtain ⟨D, h, h2⟩ := h; exact ⟨D, h.kept hg hne, h2⟩
theorem MapAt.below (h : MapAt w b n f) (hb : Below w.heap.size w w') : MapAt w' b n f := h.kept (row := none) (only_of_below hb none) (by simp)
theorem MapAt.block (h : MapAt w b n f) (hb : w'.heap[b]? = w.heap[b]?) : MapAt w' b n f := by
  obtain ⟨D, ⟨es, clock, h1, h2⟩, h3⟩ := h
  exact ⟨D, ⟨es, clock, hb.trans h1, h2⟩, h3⟩
theorem MapAt.isMap (h : MapAt w b n f) : ∃ es c, w.heap[b]? = some (.map es c) := by
  obtain ⟨D, ⟨es, clock, h1, _⟩, _⟩ := h; exact ⟨es, clock, h1⟩
theorem MapAt.look_none {t e : TypeId} {z : Value} (h : MapAt w b n f) (ht : Try.prog.underlying t = some (.map 23 e)) (hz : (zeroValue e).run Try.prog w = .ok z w) {x : UInt64} (hx : f x = none) :
    (Instr.lookup t (.map (some b)) (.int .u64 (x.toNat : Int)) true).run Try.prog w = .ok (.tuple #[z, .bool false]) w := by
  obtain ⟨D, h, h2⟩ := h
  obtain ⟨v, ps, hrun, hR⟩ := h.look_ok keyed64 ht hz (zd := .held z) (zp := []) rfl (key64 x)
  have h3 := (h2 x).1 hx
  rw [h3] at hrun
  rw [Maps.atKey_of_not_has h3] at hR
  have : v = z := by
    exact heldV_inv hR
  rw [hrun, this]
theorem MapAt.look_some {t e : TypeId} {z v : Value} (h : MapAt w b n f) (ht : Try.prog.underlying t = some (.map 23 e)) (hz : (zeroValue e).run Try.prog w = .ok z w) {x : UInt64} (hx : f x = some v) :
    (Instr.lookup t (.map (some b)) (.int .u64 (x.toNat : Int)) true).run Try.prog w = .ok (.tuple #[v, .bool true]) w := by
  obtain ⟨D, h, h2⟩ := h
  obtain ⟨u, ps, hrun, hR⟩ := h.look_ok keyed64 ht hz (zd := .held z) (zp := []) rfl (key64 x)
  obtain ⟨h3, h4⟩ := (h2 x).2 v hx
  rw [h3] at hrun
  rw [h4] at hR
  have : u = v := by
    exact heldV_inv hR
  rw [hrun, this]
/-- A store into the map. -/
theorem MapAt.put {t e : TypeId} (h : MapAt w b n f) (ht : Try.prog.underlying t = some (.map 23 e)) (hn : n < maxLen) (x : UInt64) (v : Value) :
    ∃ w', (Instr.mapUpdate t (.map (some b)) (.int .u64 (x.toNat : Int)) v).run Try.prog w = .ok () w' ∧ MapAt w' b (n + 1) (fun y => if x = y then some v else f y) ∧ w.grownBy w' (some b) := by
  obtain ⟨D, h, h2⟩ := h
  obtain ⟨w', hrun, h3, h4⟩ := h.update keyed64 ht hn (key64 x) (d := .held v) (ps := []) rfl
  refine ⟨w', hrun, ⟨_, h3, fun y => ?_⟩, h4⟩
  have hM : IsMap D := h.isMap
  have hK : WideAt.IsKeyLit (.int .u64 (x.toNat : Int)) := keyed64.key (key64 x)
  show ((if x = y then some v else f y) = none → _) ∧ ∀ u, (if x = y then some v else f y) = some u → _
  by_cases hxy : x = y
  · subst hxy
    rw [if_pos rfl]
    refine ⟨fun h => (by cases h), fun u hu => ?_⟩
    injection hu with hu; subst hu
    exact ⟨has_put_same hM hK _, fun z => atKey_put_same hM hK _ _⟩
  · have hne : (Lit.int .u64 (y.toNat : Int)) ≠ .int .u64 (x.toNat : Int) := by
      intro e; injection e with _ e
      exact hxy (UInt64.toNat_inj.1 (by omega))
    rw [if_neg hxy]
    refine ⟨fun hu => ?_, fun u hu => ?_⟩
    · rw [has_put_other hne]; exact (h2 y).1 hu
    · rw [has_put_other hne]
      exact ⟨((h2 y).2 u hu).1, fun z => by rw [atKey_put_other hne]; exact ((h2 y).2 u hu).2 z⟩
theorem MapAt.congr {g : UInt64 → Option Value} (h : MapAt w b n f) (e : ∀ x, f x = g x) : MapAt w b n g := by
  have : f = g := funext e
  subst this; exact h
end
end Go.Proofs.Ytfanhbemmjcomaa
