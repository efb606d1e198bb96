/- The documented examples hold: lives returns true; nothing that lay before has turned. -/
import Derived.Test.YtfanhbemmjcomaaWireList
import Derived.Lib.SlBytesConst
namespace Go.Proofs.Ytfanhbemmjcomaa
open Go.RowKit
set_option linter.unusedVariables false

theorem outUint_lit (g base : Nat) (l m : List UInt8) (p : Int) (n : Nat) (hp : p = (n : Int)) (hn : n ≤ 10000000) (hl : l.length ≤ 10000000) (hm : l ++ V.enc (UInt64.ofNat n) = m) (w : World) (h : OutAt w base g l) :
    Calls Try.prog 14 #[.pointer (some ⟨g, 0, none⟩), .int .u64 p] w fun e w' => e = .returned (.tuple #[]) ∧ OutAt w' base g m ∧ OutTurn g w w' := by
  subst hp hm; exact outUint_nat g base l n hn hl w h
/-- Done, its result written out; all as the caller needs it. -/
theorem done_reads (g base k : Nat) (l : List UInt8) (hk : l.length = k) (hl : k ≤ 20000000) (w : World) (h : OutAt w base g l) :
    Calls Try.prog 17 #[.pointer (some ⟨g, 0, none⟩)] w fun e w' => ∃ A c, e = .returned (.slice A k c) ∧ k ≤ c ∧ w'.ownsRow w.heap.size 5 1 (.slice A k c) k (bv l) ∧ Below w.heap.size w w' := by
  subst hk
  refine (done_any g base l hl w h).mono ?_
  rintro e w' ⟨v, rfl, hown, hb⟩
  obtain ⟨A, c, rfl, hc, _, h2⟩ := own_reads hown
  exact ⟨A, c, rfl, hc, h2, hb⟩
theorem inUint_val (n : Nat) (s' : V.St) (g : Nat) (s : V.St) (hx : V.rdUint s = (UInt64.ofNat n, s')) (hn : n < 18446744073709551616) (w : World) (h : InAt 113 w g s) :
    Calls Try.prog 58 #[.pointer (some ⟨g, 0, none⟩)] w fun e w' => e = .returned (.int .u64 (n : Int)) ∧ InAt 113 w' g s' ∧ w.grownBy w' (some g) := by
  have := inUint_any g s w h
  rw [hx, UInt64.toNat_ofNat_of_lt' (show n < UInt64.size from hn)] at this
  exact this
theorem inBytes_val (l : List UInt8) (k : Nat) (s' : V.St) (g : Nat) (most : Int) (hm1 : -9223372036854775808 ≤ most) (hm2 : most ≤ 9223372036854775807) (s : V.St) (hsl : s.1.length ≤ 1000000) (hx : V.rdList V.next most s = (l, s')) (hk : l.length = k) (w : World) (h : InAt 113 w g s) :
    Calls Try.prog 62 #[.pointer (some ⟨g, 0, none⟩), .int .i64 most] w fun e w' =>
      ∃ A c, e = .returned (.slice A k c) ∧ k ≤ c ∧ w'.ownsRow w.heap.size 5 1 (.slice A k c) k (bv l) ∧ InAt 113 w' g s' ∧ w.grownBy w' (some g) := by
  subst hk
  have := inBytes_any g most hm1 hm2 s hsl w h
  rw [hx] at this
  refine this.mono ?_
  rintro e w' ⟨v, rfl, hown, hin, hg⟩
  obtain ⟨A, c, rfl, hc, _, h2⟩ := own_reads hown
  exact ⟨A, c, rfl, hc, h2, hin, hg⟩
theorem inEnd_val (x : Int) (g : Nat) (s : V.St) (hx : V.fin s = x) (w : World) (h : InAt 113 w g s) :
    Calls Try.prog 63 #[.pointer (some ⟨g, 0, none⟩)] w fun e w' => e = .returned (.int .i64 x) ∧ w = w' := by
  subst hx; exact inEnd_any g s w h
/-- What only turned a new block is below. -/
theorem only_new {a b c : World} {g B : Nat} (h : Below B a b) (k : b.grownBy c (some g)) (hB : B ≤ b.heap.size) (hg : B ≤ g) : Below B a c :=
  h.trans ⟨k.os, k.tape, k.output, k.size, fun i hi => k.block i (by omega) (by intro e; injection e with e; omega)⟩

/-- A block just laid and marked, read from its head. -/
theorem Reads.newM (w : World) (cs : List Value) (t : TypeId) (n : Nat) (fr : Nat × Nat) (hn : cs.length = n) : Reads (w.alloc (.cells cs.toArray t fr)) (w.alloc (.cells cs.toArray t fr)).heap.size 1 (some ⟨w.heap.size, 0, none⟩) n cs := by
  refine ⟨by omega, fun _ => ⟨_, rfl, by simp, fun j u hu => ?_⟩⟩
  have e1 : (⟨w.heap.size, 0, none⟩ : Addr).add j = ⟨w.heap.size, j, none⟩ := by
    unfold Addr.add
    split <;> simp_all
  rw [e1, World.cell?_alloc_mark w cs.toArray t fr j]
  simpa using hu
end Go.Proofs.Ytfanhbemmjcomaa
