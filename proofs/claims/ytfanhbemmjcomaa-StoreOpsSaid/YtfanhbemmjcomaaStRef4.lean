/- The reference's Get and Lookup. -/
import Derived.Test.YtfanhbemmjcomaaStRef3
namespace Go.Proofs.Ytfanhbemmjcomaa
open Go.RowKit
set_option linter.unusedVariables false
namespace S
theorem look_cons_some {n j : UInt64} (r : R) {L : List R} (h : look L n = some j) : look (r :: L) n = some j := by
  cases r with
  | obj b => exact h
  | bind m k => simp only [look]; rw [h]
theorem look_drop_some {n j : UInt64} : ∀ (L : List R) (i : Nat), look (L.drop i) n = some j → look L n = some j
  | L, 0, h => h
  | [], i + 1, h => h
  | r :: L, i + 1, h => look_cons_some r (look_drop_some L i h)
theorem drop_at {L : List R} {i : Nat} {r : R} (h : L[i]? = some r) : L.drop i = r :: L.drop (i + 1) := by
  obtain ⟨h1, h2⟩ := List.getElem?_eq_some_iff.1 h
  rw [List.drop_eq_getElem_cons h1, h2]
theorem get_hit {r : R} {x : UInt64} (D : List R) (h1 : r.ob = true) (h2 : key r.bs = x) : get (r :: D) x = some r.bs := by
  cases r with
  | obj b => exact get_obj_pos D h2
  | bind m k => cases h1
theorem get_miss {r : R} {x : UInt64} (D : List R) (h1 : r.ob = true → key r.bs ≠ x) : get (r :: D) x = get D x := by
  cases r with
  | obj b => exact get_obj_neg D (h1 rfl)
  | bind m k => rfl
theorem look_hit {r : R} {x : UInt64} {D : List R} (h0 : look D x = none) (h1 : r.ob = false) (h2 : r.nm = x) : look (r :: D) x = some r.ky := by
  cases r with
  | obj b => cases h1
  | bind m k => simp only [look]; rw [h0]; exact if_pos h2
theorem look_miss {r : R} {x : UInt64} {D : List R} (h0 : look D x = none) (h1 : r.ob = false → r.nm ≠ x) : look (r :: D) x = none := by
  cases r with
  | obj b => exact h0
  | bind m k => simp only [look]; rw [h0]; exact if_neg (h1 rfl)
end S

set_option maxRecDepth 10000 in
set_option maxHeartbeats 2000000 in
theorem refGet_any (F : Nat → Prop) (A : Option Addr) (n cap : Nat) (L : List S.R) (sc : Int) (x : UInt64) (b : List UInt8) (k : Nat) (has : Bool) (hh : (S.get L x).isSome = has) (hb : (S.get L x).getD [] = b) (hk : b.length = k) (hn2 : n ≤ 200) (hcap : n ≤ cap) (w : World) (h : RefAt w F A n L) :
    Calls Try.prog 26 #[.agg #[.slice A n cap, .int .i64 sc], .int .u64 (x.toNat : Int)] w fun e w' => ∃ A' c', e = .returned (.tuple #[.slice A' k c', .bool has]) ∧ Reads w' w'.heap.size 1 A' k (bv b) ∧ Below w.heap.size w w' := by
  have HHH := Lib.hid hh
  have HHB := Lib.hid hb
  have HK := Lib.hid hk
  have HLN := Lib.hid h.1
  clear hh hb hk
  obtain ⟨w1, hw1⟩ : ∃ y, w.alloc (.cells #[.slice A n cap, .int .i64 sc] 43) = y := ⟨_, rfl⟩
  have hd1 : Below w.heap.size w w1 := by rw [← hw1]; exact (Below.refl _ _).alloc (Nat.le_refl _) _
  have htw := Two.new w 43 (.slice A n cap) (.int .i64 sc)
  rw [hw1] at htw
  have h1 := h.later hd1
  go_enter Try.func26, Try.ntmps26
  go_wp2_with fail
  try rw [hw1]
  clear hw1
  try go_wp2_with fail
  go_loopw [6] (fun ix wr => ∃ i : Nat, i ≤ n ∧ ix = .int .i64 (i : Int) ∧ Hid (S.get L x = S.get (L.drop i) x) ∧ Below w1.heap.size w1 wr) (fun ix _ => n - (intOf ix).toNat)
  case atStart => exact ⟨0, Nat.zero_le _, rfl, Lib.hid rfl, Below.refl _ _⟩
  case round =>
    obtain ⟨i, hi1, rfl, hg, hB⟩ := hrel
    have ht := htw.below hB
    have t0 := ht.cell0
    by_cases hlt : i < n
    · obtain ⟨ga, r, Ab, cb, rfl, _, hgl, ho, c0, c1, c2, c3, hrb, hrl, _⟩ := rec_at (h1.later hB) hlt
      have hdr := S.drop_at ho
      obtain ⟨kl, hkl⟩ : ∃ k, r.bs.length = k := ⟨_, rfl⟩
      obtain ⟨ob, hob⟩ : ∃ k, r.ob = k := ⟨_, rfl⟩
      obtain ⟨y, hy⟩ : ∃ y, S.key r.bs = y := ⟨_, rfl⟩
      have hcp := fun W h => key_any Ab kl cb r.bs y hy hkl (by omega) W h
      rw [hkl] at c1 hrb hrl
      rw [hob] at c0
      have HC := Lib.hid hcp
      have HKL := Lib.hid hkl
      have HOB := Lib.hid hob
      have HY := Lib.hid hy
      have hi1' : (0 : Int) ≤ (i : Int) := by omega
      have hi2' : (i : Int) < (n : Int) := by omega
      have HDR := Lib.hid hdr
      have hcl := cell_lt c1
      have htl := ht.lt
      clear hcp hkl hob hy ho hdr
      cases ob with
      | true =>
        by_cases hyx : y = x
        · subst hyx
          have hget : S.get L y = some r.bs := by rw [hg.out, HDR.out]; exact S.get_hit _ HOB.out HY.out
          have e1 : has = true := by rw [← HHH.out, hget]; rfl
          have e2 : r.bs = b := by rw [← HHB.out, hget]; rfl
          have e3 : kl = k := by rw [← HKL.out, e2]; exact HK.out
          have HE2 := Lib.hid e2
          subst e1
          subst e3
          clear hget e2
          go_wp2_with fail
          refine (HC.out _ hrb).mono ?_
          rintro e w2 ⟨rfl, hd2⟩
          have t02 := (ht.below hd2).cell0
          have c12 := (hd2.cell hcl).trans c1
          have hrb2 := hrb.later hd2
          have hb2 := blater (blater hd1 (Nat.le_refl _) hB) (Nat.le_refl _) hd2
          rw [HE2.out] at hrb2
          clear t0 c0 c1 c2 c3 hrb HC
          go_wp2_with fail
          go_ret2
          exact ⟨_, _, rfl, hrb2, hb2⟩
        · have hne : ((y.toNat : Int) == (x.toNat : Int)) = false := by rw [beq_eq_false_iff_ne]; intro e; exact hyx (UInt64.toNat_inj.1 (by omega))
          have hg' := Lib.hid (show S.get L x = S.get (L.drop (i + 1)) x by rw [hg.out, HDR.out]; exact S.get_miss _ (fun _ => by rw [HY.out]; exact hyx))
          go_wp2_with fail
          refine (HC.out _ hrb).mono ?_
          rintro e w2 ⟨rfl, hd2⟩
          have hb2 := blater hB (Nat.le_refl _) hd2
          clear t0 c0 c1 c2 c3 hrb HC
          go_wp2_with fail
          go_roundw
          case rel => exact ⟨i + 1, by omega, by go_num, hg', hb2⟩
          case measure => simp [intOf]; omega
      | false =>
        have hg' := Lib.hid (show S.get L x = S.get (L.drop (i + 1)) x by rw [hg.out, HDR.out]; exact S.get_miss _ (fun e => by rw [HOB.out] at e; cases e))
        go_wp2_with fail
        go_roundw
        case rel => exact ⟨i + 1, by omega, by go_num, hg', hB⟩
        case measure => simp [intOf]; omega
    · have hge : (n : Int) ≤ (i : Int) := by omega
      have hget : S.get L x = none := by rw [hg.out, List.drop_eq_nil_of_le (by rw [HLN.out]; omega)]; rfl
      have e1 : has = false := by rw [← HHH.out, hget]; rfl
      have e2 : b = [] := by rw [← HHB.out, hget]; rfl
      have e3 : k = 0 := by rw [← HK.out, e2]; rfl
      subst e1 e2 e3
      go_wp2_with fail
      go_ret2
      exact ⟨_, _, rfl, ⟨rfl, fun h => absurd h (by omega)⟩, blater hd1 (Nat.le_refl _) hB⟩
end Go.Proofs.Ytfanhbemmjcomaa
