/- The walk of HashOneWord. -/
import Derived.Test.YtfdcfbpflgbjgaaHashLawsC
import Derived.Deep.RegionHeld3
namespace Go.Proofs.Ytfdcfbpflgbjgaa
open Go.RowKit
set_option linter.unusedVariables false

theorem around_nat (n m : Int) (kn : Nat) (h1 : -9223372036854775808 ≤ n) (h2 : n ≤ 9223372036854775807) (hm : 1 ≤ m) (hm2 : m ≤ 1000000) (hk : arN n m = (kn : Int)) (w : World) :
    Calls Try.prog 21 #[.int .i64 n, .int .i64 m] w fun e w' => e = .returned (.int .i64 (kn : Int)) ∧ w = w' := by
  rw [← hk]; exact around_any n m h1 h2 hm (by omega) w
theorem own_head {w : World} {base : Nat} {e : TypeId} {size k c : Nat} {A : Option Addr} {xs : List Value} (h : w.ownsRow base e size (.slice A (k + 1) c) (k + 1) xs) : ∃ g, A = some ⟨g, 0, none⟩ ∧ base ≤ g ∧ g < w.heap.size := by
  obtain ⟨g, cap, hv, hb, hlt⟩ := h.form (by omega)
  injection hv with h1
  exact ⟨g, h1, hb, hlt⟩
theorem own_le {w : World} {base : Nat} {e : TypeId} {size n c : Nat} {A : Option Addr} {xs : List Value} (h : w.ownsRow base e size (.slice A n c) n xs) : n ≤ c := by
  rcases h.2 with ⟨h', h0⟩ | ⟨g, cap, cur, h', _, _, hnc, _⟩
  · injection h' with _ _ h3; omega
  · injection h' with _ _ h3; omega
theorem iv_snoc7 (l : List Int) (n : Int) : iv l ++ [.int .i64 n] = iv (l ++ [n]) := by simp [iv]
theorem iv_set (l : List Int) (k : Nat) (n : Int) : (iv l).set k (.int .i64 n) = iv (l.set k n) := by simp [iv, List.map_set]
theorem iv_getElem (l : List Int) (k : Nat) (x : Int) (h : l[k]? = some x) : (iv l)[k]? = some (.int .i64 x) := by simp [iv, h]

/-- What a walk keeps of its two lists and of what lay before. -/
theorem keep3 {w1 w2 : World} {p : Addr} {v : Value} {A A' : Option Addr} {n n' : Nat} {xs ys : List Value} {B : Nat} {a : World} (hB : B ≤ a.heap.size)
    (h : w1.cell? p = some v ∧ Reads w1 w1.heap.size 1 A n xs ∧ Reads w1 w1.heap.size 1 A' n' ys ∧ Below B a w1) (hb : Below w1.heap.size w1 w2) :
    w2.cell? p = some v ∧ Reads w2 w2.heap.size 1 A n xs ∧ Reads w2 w2.heap.size 1 A' n' ys ∧ Below B a w2 :=
  ⟨(hb.cell (cell_lt h.1)).trans h.1, h.2.1.later hb, h.2.2.1.later hb, blater h.2.2.2 hB hb⟩

namespace H
theorem wv_one {l m : List Int} {g : Nat} (h : ∀ j, j ≠ g → l[j]? = m[j]?) : ∀ j, j ≠ g → (wv l)[j]? = (wv m)[j]? := by
  intro j hj; simp [wv, h j hj]
theorem ofInt_inj {a b : Int} (ha : -9223372036854775808 ≤ a ∧ a ≤ 9223372036854775807) (hb : -9223372036854775808 ≤ b ∧ b ≤ 9223372036854775807) (h : UInt64.ofInt a = UInt64.ofInt b) : a = b := by
  have e := congrArg (fun x : UInt64 => (x.toNat : Int)) h
  simp only [← wrap_ofInt, IntKind.wrap_u64] at e
  omega
theorem sum_set (label : List UInt8) (l : List Int) (k : Nat) (v x : Int) (hx : l[k]? = some x) (hxb : -9223372036854775808 ≤ x ∧ x ≤ 9223372036854775807) (hv : -9223372036854775808 ≤ v ∧ v ≤ 9223372036854775807) :
    sum label (wv l) = sum label (wv (l.set k v)) ↔ x = v := by
  have hk : k < l.length := (List.getElem?_eq_some_iff.1 hx).1
  rw [sum_one label (g := k) (by simp [wv_len]) (wv_one (fun j hj => by rw [List.getElem?_set_ne (fun e => hj e.symm)]))]
  constructor
  · intro e
    have := congrArg (fun z => z[k]?) e
    simp only [wv, List.getElem?_map, hx, List.getElem?_set_self hk, Option.map_some, Option.some.injEq] at this
    exact ofInt_inj hxb hv this
  · intro e
    subst e
    congr 1
    apply List.ext_getElem?
    intro i
    by_cases hi : i = k
    · subst hi; rw [List.getElem?_set_self hk, hx]
    · rw [List.getElem?_set_ne (fun e => hi e.symm)]
end H

set_option maxRecDepth 100000 in
set_option maxHeartbeats 4000000 in
theorem hashOneWord_walk (a0 : ByteArray) (a1 : Option Addr) (len1 cap1 : Nat) (z1 : List Int) (a2 a3 : Int) (w : World) (w0 : a0.size ≤ maxLen) (w1 : IsRow .i64 w a1 len1 cap1 z1) (w2 : (Lit.int .i64 a2).wf = true) (w3 : (Lit.int .i64 a3).wf = true) :
    Calls Try.prog 5 #[.string a0, .slice a1 len1 cap1, .int .i64 a2, .int .i64 a3] w fun e w' => e = .returned (.bool true) ∧ Below w.heap.size w w' := by
  obtain ⟨l, hl, hc, hm, hr, hwf⟩ := isRow_ints w1
  have hb2 := wf_bd w2
  have hb3 := wf_bd w3
  clear w1 w2 w3
  obtain ⟨i0, hi0, hz0, hz1, hz2⟩ := info_parts infoInt
  obtain ⟨k0, hk2⟩ : ∃ m, (l.take 9).length = m := ⟨_, rfl⟩
  have hk9 : k0 ≤ 9 := by rw [← hk2, List.length_take]; omega
  have hc1 := ints_reads a1 len1 cap1 9 l k0 hl hc hm (by omega) hk2
  obtain ⟨X, hX⟩ : ∃ X, l.take 9 ++ [7] = X := ⟨_, rfl⟩
  have hXL : X.length = k0 + 1 := by rw [← hX, List.length_append, hk2]; rfl
  have hXt : X.take 10 = X := List.take_of_length_le (by omega)
  have hXw : ∀ x ∈ X, -9223372036854775808 ≤ x ∧ x ≤ 9223372036854775807 := by
    intro x hx
    rw [← hX] at hx
    rcases List.mem_append.1 hx with h | h
    · exact wf_bd (hwf x (List.mem_of_mem_take h))
    · simp at h; subst h; omega
  have hab := arN_bd a2 ((k0 : Int) + 1) (by omega)
  obtain ⟨kn, hkn⟩ : ∃ kn : Nat, arN a2 ((k0 : Int) + 1) = (kn : Int) := ⟨(arN a2 ((k0 : Int) + 1)).toNat, by omega⟩
  have hknlt : kn < k0 + 1 := by omega
  obtain ⟨x, hx⟩ : ∃ x, X[kn]? = some x := ⟨X[kn]'(by omega), List.getElem?_eq_getElem (by omega)⟩
  have hxb := hXw x (List.mem_of_getElem? hx)
  have hcr := around_nat a2 ((k0 : Int) + 1) kn hb2.1 hb2.2 (by omega) (by omega) hkn
  have HX := Lib.hid hX
  have HXL := Lib.hid hXL
  have HXT := Lib.hid hXt
  have HXK := Lib.hid hx
  have HYL := Lib.hid (show (X.set kn a3).length = k0 + 1 by rw [List.length_set]; exact hXL)
  clear hl hm hc hk2 hX hXL hXt hXw hab hkn hx hwf
  go_enter Try.func5, Try.ntmps5
  go_wp2_with fail
  refine (short_any a0 20 w0 (by omega) _).mono ?_
  rintro e w' ⟨⟨s, rfl, hs, _⟩, rfl⟩
  obtain ⟨x1, hx1⟩ : ∃ y, H.sum s.data.toList (wv X) = y := ⟨_, rfl⟩
  obtain ⟨x2, hx2⟩ : ∃ y, H.sum s.data.toList (wv (X.set kn a3)) = y := ⟨_, rfl⟩
  have hiff := Lib.hid (show x1 = x2 ↔ x = a3 by rw [← hx1, ← hx2]; exact H.sum_set _ X kn a3 x HXK.out hxb hb3)
  have HX1 := Lib.hid hx1
  have HX2 := Lib.hid hx2
  clear hx1 hx2
  go_wp2_with fail
  refine (hc1 _ hr).mono ?_
  rintro e w2 ⟨A2, c2, rfl, hcc, hown2, hbb⟩
  have hw2 := hbb.size
  clear hc1
  go_wp2_with (at_builtin; refine wpList_append_own _ rfl _ _ 22 rfl w.heap.size 3 i0 (.int .i64 0) 1 8 Try.underlying22 hi0 hz0 hz1 hz2 rfl (by decide) _ _ _ rfl (hown2.alloc _) ⟨w2.heap.size, 0, none⟩ 1 1 [.int .i64 7] rfl rfl (cell_one_new _ _ _) (by simp [Value.oneCell']) (by unfold maxLen; omega) (by omega) (by simp; omega) ?_; intro v' w3 hown' hgrow _; obtain ⟨g2, cap2, rfl⟩ := ownsRow_succ hown'; rw [iv_snoc7, HX.out] at hown')
  have hB3 : Below w.heap.size w w3 := hbb.trans (below_appended hown2 hw2 hgrow)
  have hr3 := Reads.of_own hown'
  have hcap := own_cap hown'
  have hw3 := hB3.size
  have hcX : w3.cell? ⟨g2, kn, none⟩ = some (.int .i64 x) := (hown'.cellAt kn (by omega)).trans (iv_getElem _ _ _ HXK.out)
  have hg2 : g2 < w3.heap.size := cell_lt hcX
  have hcc3 : k0 + 1 ≤ cap2 := own_le hown'
  have hc4 := ints_reads _ (k0 + 1) cap2 10 X (k0 + 1) HXL.out hcc3 hcap (by omega) (by rw [HXT.out]; exact HXL.out) w3 hr3
  rw [HXT.out] at hc4
  clear hown' hgrow hown2 hbb hw2 hcap
  refine hc4.mono ?_
  rintro e w4 ⟨A4, c4, rfl, hcc4, hown4, hbb⟩
  clear hc4
  have hB4 := blater hB3 (Nat.le_refl _) hbb
  have hr4 := hr3.later hbb
  obtain ⟨g4, rfl, hg4, hg4'⟩ := own_head hown4
  clear hB3
  go_wp2_with fail
  refine (hcr _).mono ?_
  rintro e w' ⟨rfl, rfl⟩
  have hcell4 : w4.cell? ⟨g4, kn, none⟩ = some (.int .i64 x) := (hown4.cellAt kn (by omega)).trans (iv_getElem _ _ _ HXK.out)
  have hfr4 := hown4.frozenAt kn
  have hst := (hown4.stored kn (.int .i64 a3)).1
  rw [iv_set] at hst
  have hB5 := hB4.setCell (p := ⟨g4, kn, none⟩) (by show w.heap.size ≤ g4; omega) (.int .i64 a3)
  have hrX := ((hr3.below hbb).setCell (p := ⟨g4, kn, none⟩) hg4 (.int .i64 a3)).more (B' := (w4.setCell ⟨g4, kn, none⟩ (.int .i64 a3)).heap.size) (by have := hbb.size; simpa [World.setCell] using this)
  have hrY := Reads.of_own hst
  have hcX5 : (w4.setCell ⟨g4, kn, none⟩ (.int .i64 a3)).cell? ⟨g2, kn, none⟩ = some (.int .i64 x) := by
    rw [World.cell?_setCell_other _ _ _ _ (fun e => by injection e with e1; omega)]
    exact (hbb.cell (p := ⟨g2, kn, none⟩) hg2).trans hcX
  go_wp2_with fail
  obtain ⟨W5, hW5⟩ : ∃ W5, w4.setCell ⟨g4, kn, none⟩ (.int .i64 a3) = W5 := ⟨_, rfl⟩
  rw [hW5] at hB5 hrX hrY hcX5 ⊢
  have hS0 := Lib.hid (show W5.drew.cell? ⟨g2, kn, none⟩ = some (.int .i64 x) ∧ Reads W5.drew W5.drew.heap.size 1 (some ⟨g2, 0, none⟩) (k0 + 1) (iv X) ∧ Reads W5.drew W5.drew.heap.size 1 (some ⟨g4, 0, none⟩) (k0 + 1) (iv (X.set kn a3)) ∧ Below w.heap.size w W5.drew from ⟨hcX5, hrX.drew, hrY.drew, hB5.drew⟩)
  have hkn0 : (0 : Int) ≤ (kn : Int) := by omega
  have hkn1 : (kn : Int) < (k0 : Int) + 1 := by omega
  clear hW5 hB5 hrX hrY hst hcell4 hfr4 hown4 hr4 hB4 hbb hr3 hcX hcr hr hg4 hg4' hg2 hcc hcc3 hcc4 hw3 hxb hb2 hb3
  by_cases hxa : x = a3
  · obtain rfl : x1 = x2 := hiff.out.2 hxa
    have hxe : (x == a3) = true := by rw [beq_iff_eq]; exact hxa
    clear hxa hcX5
    go_region_held3 (fun w' => w'.cell? ⟨g2, kn, none⟩ = some (.int .i64 x) ∧ Reads w' w'.heap.size 1 (some ⟨g2, 0, none⟩) (k0 + 1) (iv X) ∧ Reads w' w'.heap.size 1 (some ⟨g4, 0, none⟩) (k0 + 1) (iv (X.set kn a3)) ∧ Below w.heap.size w w') (first | exact hS0.out | exact keep3 (Nat.le_refl _) (by assumption) (by assumption))
      (first
        | (go_at_call_of 13 cap2; refine (sum_val x1 s (by omega) _ _ _ _ HXL.out (by omega) HX1.out _ ?_).mono ?_; exact (And.left (And.right (by assumption))); rintro e w' ⟨rfl, hb'⟩)
        | (go_at_call_of 13 c4; refine (sum_val x1 s (by omega) _ _ _ _ HYL.out (by omega) HX2.out _ ?_).mono ?_; exact (And.left (And.right (And.right (by assumption)))); rintro e w' ⟨rfl, hb'⟩)
        | (go_at_call 15; refine (lives_any _).mono ?_; rintro e w' ⟨rfl, hb'⟩))
    have hfin := And.right (And.right (And.right (by assumption : _ ∧ Reads _ _ 1 (some ⟨g2, 0, none⟩) (k0 + 1) (iv X) ∧ Reads _ _ 1 (some ⟨g4, 0, none⟩) (k0 + 1) (iv (X.set kn a3)) ∧ Below w.heap.size w _)))
    go_wp2
    go_ret
    exact ⟨rfl, hfin⟩
  · have hne := eq_form (x := x1) (y := x2) (fun e => hxa (hiff.out.1 e))
    have hxe : (x == a3) = false := by rw [beq_eq_false_iff_ne]; exact hxa
    clear hxa hcX5
    go_region_held3 (fun w' => w'.cell? ⟨g2, kn, none⟩ = some (.int .i64 x) ∧ Reads w' w'.heap.size 1 (some ⟨g2, 0, none⟩) (k0 + 1) (iv X) ∧ Reads w' w'.heap.size 1 (some ⟨g4, 0, none⟩) (k0 + 1) (iv (X.set kn a3)) ∧ Below w.heap.size w w') (first | exact hS0.out | exact keep3 (Nat.le_refl _) (by assumption) (by assumption))
      (first
        | (go_at_call_of 13 cap2; refine (sum_val x1 s (by omega) _ _ _ _ HXL.out (by omega) HX1.out _ ?_).mono ?_; exact (And.left (And.right (by assumption))); rintro e w' ⟨rfl, hb'⟩)
        | (go_at_call_of 13 c4; refine (sum_val x2 s (by omega) _ _ _ _ HYL.out (by omega) HX2.out _ ?_).mono ?_; exact (And.left (And.right (And.right (by assumption)))); rintro e w' ⟨rfl, hb'⟩)
        | (go_at_call 15; refine (lives_any _).mono ?_; rintro e w' ⟨rfl, hb'⟩))
    have hfin := And.right (And.right (And.right (by assumption : _ ∧ Reads _ _ 1 (some ⟨g2, 0, none⟩) (k0 + 1) (iv X) ∧ Reads _ _ 1 (some ⟨g4, 0, none⟩) (k0 + 1) (iv (X.set kn a3)) ∧ Below w.heap.size w _)))
    go_wp2
    go_ret
    exact ⟨rfl, hfin⟩
end Go.Proofs.Ytfdcfbpflgbjgaa
