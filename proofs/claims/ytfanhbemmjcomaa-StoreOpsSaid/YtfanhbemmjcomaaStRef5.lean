/- The reference's Lookup. -/
import Derived.Test.YtfanhbemmjcomaaStRef4
namespace Go.Proofs.Ytfanhbemmjcomaa
open Go.RowKit
set_option linter.unusedVariables false

set_option maxRecDepth 10000 in
set_option maxHeartbeats 2000000 in
theorem refLook_any (F : Nat → Prop) (A : Option Addr) (n cap : Nat) (L : List S.R) (sc : Int) (x k : UInt64) (has : Bool) (hh : (S.look L x).isSome = has) (hb : (S.look L x).getD 0 = k) (hn2 : n ≤ 200) (hcap : n ≤ cap) (w : World) (h : RefAt w F A n L) :
    Calls Try.prog 28 #[.agg #[.slice A n cap, .int .i64 sc], .int .u64 (x.toNat : Int)] w fun e w' => e = .returned (.tuple #[.int .u64 (k.toNat : Int), .bool has]) ∧ Below w.heap.size w w' := by
  have HHH := Lib.hid hh
  have HHB := Lib.hid hb
  have HLN := Lib.hid h.1
  clear hh hb
  obtain ⟨w1, hw1⟩ : ∃ y, w.alloc (.cells #[.slice A n cap, .int .i64 sc] 43) = y := ⟨_, rfl⟩
  have hd1 : Below w.heap.size w w1 := by rw [← hw1]; exact (Below.refl _ _).alloc (Nat.le_refl _) _
  have htw := Two.new w 43 (.slice A n cap) (.int .i64 sc)
  rw [hw1] at htw
  have h1 := h.later hd1
  have t00 := htw.cell0
  go_enter Try.func28, Try.ntmps28
  go_wp2_with fail
  try rw [hw1]
  clear hw1
  try go_wp2_with fail
  clear t00
  go_loopw [6] (fun ix wr => ∃ j : Nat, j ≤ n ∧ ix = .int .i64 ((j : Int) - 1) ∧ Hid (S.look (L.drop j) x = none) ∧ wr = w1) (fun ix _ => (intOf ix + 1).toNat)
  case atStart => exact ⟨n, Nat.le_refl _, rfl, Lib.hid (by rw [List.drop_eq_nil_of_le (by rw [HLN.out]; omega)]; rfl), rfl⟩
  case round =>
    obtain ⟨j, hj1, rfl, hg, rfl⟩ := hrel
    have t0 := htw.cell0
    by_cases hj : 0 < j
    · obtain ⟨i, rfl⟩ : ∃ i, j = i + 1 := ⟨j - 1, by omega⟩
      have hix : (((i + 1 : Nat) : Int) - 1) = (i : Int) := by omega
      rw [hix]
      obtain ⟨ga, r, Ab, cb, rfl, _, hgl, ho, c0, c1, c2, c3, hrb, hrl, _⟩ := rec_at h1 (k := i) (by omega)
      have hdr := S.drop_at ho
      obtain ⟨ob, hob⟩ : ∃ k, r.ob = k := ⟨_, rfl⟩
      obtain ⟨nm, hnm⟩ : ∃ y, r.nm = y := ⟨_, rfl⟩
      obtain ⟨ky, hky⟩ : ∃ y, r.ky = y := ⟨_, rfl⟩
      rw [hob] at c0
      rw [hnm] at c2
      rw [hky] at c3
      have HOB := Lib.hid hob
      have HNM := Lib.hid hnm
      have HKY := Lib.hid hky
      have hi1' : (0 : Int) ≤ (i : Int) := by omega
      have hi2' : (i : Int) < (n : Int) := by omega
      have HDR := Lib.hid hdr
      clear hob hnm hky ho hdr hrb hrl c1 hix
      cases ob with
      | false =>
        by_cases hyx : nm = x
        · subst hyx
          have hl : S.look L nm = some ky := by
            refine S.look_drop_some L i ?_
            rw [HDR.out, ← HKY.out]
            exact S.look_hit hg.out HOB.out HNM.out
          have e1 : has = true := by rw [← HHH.out, hl]; rfl
          have e2 : ky = k := by rw [← HHB.out, hl]; rfl
          subst e1 e2
          clear hl
          go_wp2_with fail
          go_ret2
          exact ⟨rfl, hd1⟩
        · have hne : ((nm.toNat : Int) == (x.toNat : Int)) = false := by rw [beq_eq_false_iff_ne]; intro e; exact hyx (UInt64.toNat_inj.1 (by omega))
          have hg' := Lib.hid (show S.look (L.drop i) x = none by rw [HDR.out]; exact S.look_miss hg.out (fun _ => by rw [HNM.out]; exact hyx))
          go_wp2_with fail
          go_roundw
          case rel => exact ⟨i, by omega, by first | rfl | go_num, hg', by trivial⟩
          case measure => simp [intOf] <;> omega
      | true =>
        have hg' := Lib.hid (show S.look (L.drop i) x = none by rw [HDR.out]; exact S.look_miss hg.out (fun e => by rw [HOB.out] at e; cases e))
        go_wp2_with fail
        go_roundw
        case rel => exact ⟨i, by omega, by first | rfl | go_num, hg', by trivial⟩
        case measure => simp [intOf] <;> omega
    · obtain rfl : j = 0 := by omega
      have hl : S.look L x = none := hg.out
      have e1 : has = false := by rw [← HHH.out, hl]; rfl
      have e2 : k = 0 := by rw [← HHB.out, hl]; rfl
      subst e1 e2
      go_wp2_with fail
      go_ret2
      exact ⟨rfl, hd1⟩
end Go.Proofs.Ytfanhbemmjcomaa
