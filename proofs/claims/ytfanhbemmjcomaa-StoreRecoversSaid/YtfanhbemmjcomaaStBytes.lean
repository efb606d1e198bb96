/- slices.Equal, Grow (of nil) and Concat of byte slices. -/
import Derived.Test.YtfanhbemmjcomaaStMap
import Derived.Test.YtfanhbemmjcomaaWireRef2
import Derived.Lib.AppendZeros
import Derived.Deep.QuietTactic
import Derived.BigQuiet
namespace Go.Proofs.Ytfanhbemmjcomaa
open Go.RowKit
set_option linter.unusedVariables false

set_option maxHeartbeats 1000000 in
theorem equal_any (b : Bool) (A A' : Option Addr) (len cap len' cap' : Nat) (l l' : List UInt8) (hl : l.length = len) (hl' : l'.length = len') (hb : b = decide (l = l')) (hs : len ≤ 9223372036854775807) (hs' : len' ≤ 9223372036854775807) (B : Nat) (w : World) (hrd : Reads w B 1 A len (bv l)) (hrd' : Reads w B 1 A' len' (bv l')) :
    Calls Try.prog 36 #[.slice A len cap, .slice A' len' cap'] w fun e w' => e = .returned (.bool b) ∧ ∃ n, w' = w.drewN n := by
  have HL := Lib.hid hl
  have HL' := Lib.hid hl'
  have HB := Lib.hid hb
  clear hl hl' hb
  by_cases hne : len = len'
  · subst hne
    go_enter Try.func36, Try.ntmps36
    go_wp2
    go_loopw [13] (fun i wr => ∃ k : Nat, k ≤ len ∧ i = .int .i64 (k : Int) ∧ Agree l l' k ∧ ∃ n, wr = w.drewN n) (fun i _ => len - (intOf i).toNat)
    case atStart => exact ⟨0, Nat.zero_le _, rfl, Agree.zero _ _, 0, rfl⟩
    case round =>
      obtain ⟨k, hk, rfl, hpre, nd, rfl⟩ := hrel
      by_cases hlt : k < len
      · obtain ⟨ad, u, rfl, _, hu, hcell⟩ := hrd.at_ hlt
        obtain ⟨ad', u', rfl, _, hu', hcell'⟩ := hrd'.at_ hlt
        obtain ⟨x, hx, rfl⟩ := bv_at hu
        obtain ⟨x', hx', rfl⟩ := bv_at hu'
        have HX := Lib.hid hx
        have HX' := Lib.hid hx'
        clear hx hx' hu hu'
        have hi1 : (0 : Int) ≤ (k : Int) := by omega
        have hi2 : (k : Int) < (len : Int) := by omega
        by_cases hxx : x = x'
        · subst hxx
          go_wp2
          go_quiet (fail)
          go_wp2
          go_roundw
          case rel => exact ⟨k + 1, by omega, by go_num, hpre.succ (HX.out.trans HX'.out.symm), _, rfl⟩
          case measure => simp [intOf]; omega
        · have hbne := (show ((x.toNat : Int) != (x'.toNat : Int)) = true by rw [bne_iff_ne]; intro e; exact hxx (UInt8.toNat_inj.1 (by omega)))
          have HN := Lib.hid (show b = false by rw [HB.out]; exact decide_eq_false (fun e => hxx (by have h1 := HX.out; have h2 := HX'.out; rw [e] at h1; exact Option.some.inj (h1.symm.trans h2))))
          clear hxx
          go_wp2
          go_quiet (fail)
          go_wp2
          go_ret
          exact ⟨by rw [HN.out]; rfl, _, World.drewN_drewN _ _ _⟩
      · have HN := Lib.hid (show b = true by rw [HB.out]; exact decide_eq_true (hpre.all (by rw [HL.out]; omega) (by rw [HL'.out]; omega)))
        go_wp2
        go_ret
        exact ⟨by rw [HN.out]; rfl, nd, rfl⟩
  · have HN := Lib.hid (show b = false by rw [HB.out]; exact decide_eq_false (fun e => hne (by rw [← HL.out, ← HL'.out, e])))
    have hb1 : ((len : Int) != (len' : Int)) = true := by rw [bne_iff_ne]; omega
    have hb2 : ((len : Int) == (len' : Int)) = false := by rw [beq_eq_false_iff_ne]; omega
    clear hne
    go_enter Try.func36, Try.ntmps36
    go_wp2
    go_ret
    exact ⟨by rw [HN.out]; rfl, 0, rfl⟩
theorem equal_b (b : Bool) (A A' : Option Addr) (len cap len' cap' : Nat) (l l' : List UInt8) (hl : l.length = len) (hl' : l'.length = len') (hb : b = decide (l = l')) (hs : len ≤ 9223372036854775807) (hs' : len' ≤ 9223372036854775807) (w : World) (hrd : Reads w w.heap.size 1 A len (bv l)) (hrd' : Reads w w.heap.size 1 A' len' (bv l')) :
    Calls Try.prog 36 #[.slice A len cap, .slice A' len' cap'] w fun e w' => e = .returned (.bool b) ∧ Below w.heap.size w w' := by
  refine (equal_any b A A' len cap len' cap' l l' hl hl' hb hs hs' _ w hrd hrd').mono ?_
  rintro e w' ⟨rfl, n, rfl⟩
  exact ⟨rfl, below_drewN' (Below.refl _ _) n⟩

theorem zeros_own (w : World) (n cap : Nat) (z : Value) (e : TypeId) (hc : n ≤ cap) (hm : cap ≤ maxLen) (hz : z.cells = #[z]) :
    (w.drew.alloc (.cells (Builtin.zeroCells z.cells n ++ Builtin.zeroCells z.cells (cap - n)) e)).ownsRow w.heap.size e 1 (.slice (some ⟨w.heap.size, 0, none⟩) 0 cap) 0 [] := by
  refine ⟨by simp, .inr ⟨w.heap.size, cap, Builtin.zeroCells z.cells n ++ Builtin.zeroCells z.cells (cap - n), rfl, Nat.le_refl _, ?_, Nat.zero_le _, hm, ?_, ?_⟩⟩
  · exact World.alloc_heap_new w.drew _
  · rw [hz]; simp [Builtin.zeroCells]; omega
  · simp

set_option maxRecDepth 10000 in
set_option maxHeartbeats 1000000 in
theorem grow_nil (n : Nat) (hn : n ≤ 100000000) (w : World) :
    Calls Try.prog 66 #[.slice none 0 0, .int .i64 (n : Int)] w fun e w' => ∃ v, e = .returned v ∧ w'.ownsRow w.heap.size 5 1 v 0 [] ∧ Below w.heap.size w w' := by
  obtain ⟨i0, hi, hz0, hz1, hz2⟩ := info_parts infoByte
  by_cases h0 : n = 0
  · subst h0
    go_enter Try.func66, Try.ntmps66
    go_wp2_with fail
    go_ret
    exact ⟨_, rfl, World.ownsRow_nil _ _ _ _, Below.refl _ _⟩
  · have hn1 : 0 < n := by omega
    have hr := Lib.run_append_nil_zeros (P := Try.prog) w 22 3 22 5 i0 (.int .u8 0) .i64 .i64 Try.underlying22 Try.underlying3 hi hz0 n hn1 (by rw [hz1]; omega) (by omega) (by rw [hz2]; omega)
    have HR := Lib.hid hr
    clear hr h0
    go_enter Try.func66, Try.ntmps66
    go_wp2_with (at_builtin; refine Lib.wpList_append_run _ rfl _ _ _ _ rfl _ _ rfl rfl _ _ HR.out ?_)
    go_ret
    exact ⟨_, rfl, zeros_own w n _ (.int .u8 0) 5 (grownCap_ge _ _ _ _) (grownCap_le_maxLen _ _ _ _ (by unfold maxLen; omega)) rfl, (Below.drew (Below.refl _ _)).alloc (Nat.le_refl _) _⟩

set_option maxRecDepth 10000 in
set_option maxHeartbeats 2000000 in
theorem concat_any (g m : Nat) (hm : m ≤ 100) (xss : List (List UInt8)) (hx : xss.length = m) (hT : xss.flatten.length ≤ 1000000) (w : World)
    (hrow : ∀ i xs, xss[i]? = some xs → ∃ A n c, w.cell? ⟨g, i, none⟩ = some (.slice A n c) ∧ xs.length = n ∧ Reads w w.heap.size 1 A n (bv xs)) (hg : g < w.heap.size) :
    Calls Try.prog 51 #[.slice (some ⟨g, 0, none⟩) m m] w fun e w' => ∃ v, e = .returned v ∧ w'.ownsRow w.heap.size 5 1 v xss.flatten.length (bv xss.flatten) ∧ Below w.heap.size w w' := by
  obtain ⟨i0, hi, hz0, hz1, hz2⟩ := info_parts infoByte
  have HX := Lib.hid hx
  have HT := Lib.hid hT
  have HROW := Lib.hid hrow
  have hlen : ∀ k, (xss.take k).flatten.length ≤ xss.flatten.length := by
    intro k
    have : xss.flatten = (xss.take k).flatten ++ (xss.drop k).flatten := by rw [← List.flatten_append, List.take_append_drop]
    rw [this, List.length_append]; omega
  have hstep : ∀ k xs, xss[k]? = some xs → (xss.take (k + 1)).flatten = (xss.take k).flatten ++ xs := by
    intro k xs h
    rw [List.take_add_one, h]
    simp
  have HLEN := Lib.hid hlen
  have HST := Lib.hid hstep
  clear hx hT hrow hlen hstep
  go_enter Try.func51, Try.ntmps51
  go_wp2_with fail
  go_loop [3, 11] (fun s i => ∃ k t : Nat, k ≤ m ∧ i = .int .i64 (k : Int) ∧ s = .int .i64 (t : Int) ∧ t ≤ 1000000 ∧ Hid ((xss.take k).flatten.length = t)) (fun _ i => m - (intOf i).toNat)
  case atStart => exact ⟨0, 0, Nat.zero_le _, rfl, rfl, by omega, rfl⟩
  case round =>
    obtain ⟨k, t, hk, rfl, rfl, ht, hkt⟩ := hrel
    by_cases hlt : k < m
    · obtain ⟨xs, hxs⟩ : ∃ xs, xss[k]? = some xs := ⟨_, List.getElem?_eq_getElem (by rw [HX.out]; exact hlt)⟩
      obtain ⟨A, n, c, hcell, hn, hr⟩ := HROW.out k xs hxs
      have h1 := HST.out k xs hxs
      have h2 := HLEN.out (k + 1)
      have hT := HT.out
      have h3 : (xss.take (k + 1)).flatten.length = t + n := by rw [h1, List.length_append, hkt.out, hn]
      have htn : t + n ≤ 1000000 := by omega
      have H3 := Lib.hid h3
      clear h1 h2 h3 hn hxs hr hT
      have hi1 : (0 : Int) ≤ (k : Int) := by omega
      have hi2 : (k : Int) < (m : Int) := by omega
      go_wp2_with fail
      go_round
      case rel => exact ⟨k + 1, t + n, by omega, by go_num, by go_num, htn, H3.out⟩
      case measure => simp [intOf]; omega
    · have hkm := Lib.hid (show k = m by omega)
      have hi2 : (m : Int) ≤ (k : Int) := by omega
      go_wp2_with fail
      refine (grow_nil t (by omega) _).mono ?_
      rintro e w1 ⟨v, rfl, hown, hb⟩
      go_wp2_with fail
      go_loopw [6, 27] (fun v i wr => ∃ k : Nat, k ≤ m ∧ i = .int .i64 (k : Int) ∧ wr.ownsRow w.heap.size 5 1 v (xss.take k).flatten.length (bv (xss.take k).flatten) ∧ Below w.heap.size w wr) (fun _ i _ => m - (intOf i).toNat)
      case atStart => exact ⟨0, Nat.zero_le _, rfl, by simpa [bv] using hown, hb⟩
      case round =>
        obtain ⟨j, hj, rfl, hown2, hb2⟩ := hrel
        clear hown hb
        by_cases hjm : j < m
        · obtain ⟨xs, hxs⟩ : ∃ xs, xss[j]? = some xs := ⟨_, List.getElem?_eq_getElem (by rw [HX.out]; exact hjm)⟩
          obtain ⟨A, n, c, hcell, hn, hr⟩ := HROW.out j xs hxs
          have hcell := (hb2.cell (p := ⟨g, j, none⟩) hg).trans hcell
          have hr1 := hr.later hb2
          have HN := Lib.hid hn
          have h1 := HST.out j xs hxs
          have h2 := HLEN.out (j + 1)
          have hT := HT.out
          rw [h1] at h2
          rw [List.length_append] at h2
          have H1 := Lib.hid h1
          have hone := bv_one xs
          have hs2 := hb2.size
          obtain ⟨A1, k1, c1, rfl, hc1, hk1, hown1, _⟩ := own_out hown2
          have hk1' : k1 + n ≤ 1000000 := by omega
          have HK := Lib.hid hk1
          clear hn hxs hr h1 h2 hT hk1 hown2
          have hi1 : (0 : Int) ≤ (j : Int) := by omega
          have hi2 : (j : Int) < (m : Int) := by omega
          go_wp2_with (at_builtin; refine wpList_append_any _ rfl _ _ 22 rfl w.heap.size 5 i0 (.int .u8 0) 1 1 Try.underlying22 hi hz0 hz1 hz2 rfl (by decide) _ _ _ rfl hown1 wr.heap.size A n c (bv xs) rfl hr1 hone (by unfold maxLen; omega) (by omega) (by omega) ?_; intro v' w2 hown' hgrow hat)
          go_roundw
          case rel =>
            refine ⟨j + 1, by omega, by go_num, ?_, hb2.grown hgrow hs2 (fun k e => (own_from hown1 k e).1)⟩
            rw [H1.out]
            exact own_app (by rw [HK.out]; exact hown') HN.out
          case measure => simp [intOf]; omega
        · have hjk := Lib.hid (show xss.take j = xss from List.take_of_length_le (by rw [HX.out]; omega))
          go_wp2_with fail
          go_ret
          rw [hjk.out] at hown2
          exact ⟨_, rfl, hown2, hb2⟩
end Go.Proofs.Ytfanhbemmjcomaa
