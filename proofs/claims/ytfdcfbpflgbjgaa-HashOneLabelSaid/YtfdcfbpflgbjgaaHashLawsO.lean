/- The walk of HashOneGroup. -/
import Derived.Test.YtfdcfbpflgbjgaaHashLawsW
namespace Go.Proofs.Ytfdcfbpflgbjgaa
open Go.RowKit
set_option linter.unusedVariables false

theorem beq_form {x y : UInt64} {p : Prop} [Decidable p] (h : x = y ↔ p) : ((x.toNat : Int) == (y.toNat : Int)) = decide p := by
  by_cases hp : p
  · rw [decide_eq_true hp, h.2 hp]; simp
  · rw [decide_eq_false hp]; exact eq_form (fun e => hp (h.1 e))
theorem bv_snoc (l : List UInt8) (c : UInt8) : bv l ++ [.int .u8 (c.toNat : Int)] = bv (l ++ [c]) := by simp [bv]
theorem bv_set (l : List UInt8) (k : Nat) (c : UInt8) : (bv l).set k (.int .u8 (c.toNat : Int)) = bv (l.set k c) := by simp [bv, List.map_set]
theorem bv_getElem (l : List UInt8) (k : Nat) (x : UInt8) (h : l[k]? = some x) : (bv l)[k]? = some (.int .u8 (x.toNat : Int)) := by simp [bv, h]
theorem xor8 (a b : UInt8) : bits BinOp.xor IntKind.u8 (a.toNat : Int) (b.toNat : Int) = ((a ^^^ b).toNat : Int) := by
  rw [u8_xor_nat _ _ a.toNat_lt b.toNat_lt, UInt8.toNat_xor]
theorem wf_u8 {n : Int} (h : (Lit.int .u8 n).wf = true) : ∃ x : UInt8, n = (x.toNat : Int) := ⟨toByte n, (toByte_back h).symm⟩

set_option maxRecDepth 100000 in
set_option maxHeartbeats 4000000 in
theorem hashOneGroup_walk (a0 : ByteArray) (a1 : Option Addr) (len1 cap1 : Nat) (z1 : List Int) (a2 a3 a4 : Int) (w : World) (w0 : a0.size ≤ maxLen) (w1 : IsRow .u8 w a1 len1 cap1 z1) (w2 : (Lit.int .i64 a2).wf = true) (w3 : (Lit.int .u8 a3).wf = true) (w4 : (Lit.int .u8 a4).wf = true) :
    Calls Try.prog 6 #[.string a0, .slice a1 len1 cap1, .int .i64 a2, .int .u8 a3, .int .u8 a4] w fun e w' => e = .returned (.bool true) ∧ Below w.heap.size w w' := by
  obtain ⟨l, hl, hc, hm, hr⟩ := isRow_bytes w1
  have hb2 := wf_bd w2
  obtain ⟨p, rfl⟩ := wf_u8 w3
  obtain ⟨q, rfl⟩ := wf_u8 w4
  clear w1 w2 w3 w4
  obtain ⟨i0, hi0, hz0, hz1, hz2⟩ := info_parts infoByte
  obtain ⟨k0, hk2⟩ : ∃ m, (l.take 39).length = m := ⟨_, rfl⟩
  have hk9 : k0 ≤ 39 := by rw [← hk2, List.length_take]; omega
  have hc1 := few_reads a1 len1 cap1 39 l k0 hl hc hm (by omega) hk2
  obtain ⟨X, hX⟩ : ∃ X, l.take 39 ++ [65] = X := ⟨_, rfl⟩
  have hXL : X.length = k0 + 1 := by rw [← hX, List.length_append, hk2]; rfl
  have hXt : X.take 40 = X := List.take_of_length_le (by omega)
  have hab := arN_bd a2 ((k0 : Int) + 1) (by omega)
  obtain ⟨kn, hkn⟩ : ∃ kn : Nat, arN a2 ((k0 : Int) + 1) = (kn : Int) := ⟨(arN a2 ((k0 : Int) + 1)).toNat, by omega⟩
  have hknlt : kn < k0 + 1 := by omega
  obtain ⟨x, hx⟩ : ∃ x, X[kn]? = some x := ⟨X[kn]'(by omega), List.getElem?_eq_getElem (by omega)⟩
  have hcr := around_nat a2 ((k0 : Int) + 1) kn hb2.1 hb2.2 (by omega) (by omega) hkn
  have HX := Lib.hid (show bv (l.take 39) ++ [.int .u8 65] = bv X by rw [← hX, ← bv_snoc]; rfl)
  have HXL := Lib.hid hXL
  have HXT := Lib.hid hXt
  have HXK := Lib.hid hx
  obtain ⟨r, hrr⟩ : ∃ r, x ^^^ p = r := ⟨_, rfl⟩
  have hx8 := xor8 x p
  rw [hrr] at hx8
  clear hrr
  clear hl hm hc hk2 hX hXL hXt hab hkn hx hb2
  go_enter Try.func6, Try.ntmps6
  go_wp2_with fail
  refine (short_any a0 20 w0 (by omega) _).mono ?_
  rintro e w' ⟨⟨s, rfl, hs, _⟩, rfl⟩
  go_wp2_with fail
  refine (hc1 _ hr).mono ?_
  rintro e w2 ⟨A2, c2, rfl, hcc, hown2, hbb⟩
  have hw2 := hbb.size
  clear hc1
  go_wp2_with (at_builtin; refine wpList_append_own _ rfl _ _ 30 rfl w.heap.size 5 i0 (.int .u8 0) 1 1 Try.underlying30 hi0 hz0 hz1 hz2 rfl (by decide) _ _ _ rfl (hown2.alloc _) ⟨w2.heap.size, 0, none⟩ 1 1 [.int .u8 65] rfl rfl (cell_one_new _ _ _) (by simp [Value.oneCell']) (by unfold maxLen; omega) (by omega) (by simp; omega) ?_; intro v' w3 hown' hgrow _; obtain ⟨g2, cap2, rfl⟩ := ownsRow_succ hown'; rw [HX.out] at hown')
  have hB3 : Below w.heap.size w w3 := hbb.trans (below_appended hown2 hw2 hgrow)
  have hr3 := Reads.of_own hown'
  have hcap := own_cap hown'
  have hw3 := hB3.size
  have hcc3 : k0 + 1 ≤ cap2 := own_le hown'
  have hc4 := few_reads _ (k0 + 1) cap2 40 X (k0 + 1) HXL.out hcc3 hcap (by omega) (by rw [HXT.out]; exact HXL.out) w3 hr3
  rw [HXT.out] at hc4
  clear hown' hgrow hown2 hbb hw2 hcap
  refine hc4.mono ?_
  rintro e w4 ⟨A4, c4, rfl, hcc4, hown4, hbb⟩
  clear hc4
  have hB4 := blater hB3 (Nat.le_refl _) hbb
  have hr4 := hr3.below hbb
  have hw4 := hbb.size
  obtain ⟨g4, rfl, hg4, hg4'⟩ := own_head hown4
  clear hB3 hbb hr3 hr hcc hcc3 hcc4
  have hcell4 : w4.cell? ⟨g4, kn, none⟩ = some (.int .u8 (x.toNat : Int)) := (hown4.cellAt kn (by omega)).trans (bv_getElem _ _ _ HXK.out)
  have hfr4 := hown4.frozenAt kn
  have hst := (hown4.stored kn (.int .u8 (r.toNat : Int))).1
  rw [bv_set] at hst
  have hkn0 : (0 : Int) ≤ (kn : Int) := by omega
  have hkn1 : (kn : Int) < (k0 : Int) + 1 := by omega
  by_cases hlt : kn + 1 < k0 + 1
  · by_cases hmod : (kn + 1) % 8 = 0
    · have hm8 : (((kn : Int) + 1) % 8 != 0) = false := by rw [bne_eq_false_iff_eq]; omega
      have hl8 : (kn : Int) + 1 < (k0 : Int) + 1 := by omega
      go_wp2_with fail
      refine (hcr _).mono ?_
      rintro e w' ⟨rfl, rfl⟩
      go_wp2_with fail
      obtain ⟨W5, hW5⟩ : ∃ W5, w4.setCell ⟨g4, kn, none⟩ (.int .u8 (r.toNat : Int)) = W5 := ⟨_, rfl⟩
      obtain ⟨Y, hY⟩ : ∃ Y, X.set kn r = Y := ⟨_, rfl⟩
      have HYL := Lib.hid (show Y.length = k0 + 1 by rw [← hY]; simp only [List.length_set]; exact HXL.out)
      have HAG := Lib.hid (show ∀ j : Nat, j / 8 ≠ kn / 8 → X[j]? = Y[j]? by rw [← hY]; intro j hj; rw [List.getElem?_set_ne (fun e => hj (by omega))])
      have hB5 : Below w.heap.size w W5 := by rw [← hW5]; exact hB4.setCell (p := ⟨g4, kn, none⟩) (by show w.heap.size ≤ g4; omega) _
      have hrX : Reads W5 W5.heap.size 1 (some ⟨g2, 0, none⟩) (k0 + 1) (bv X) := by rw [← hW5]; exact (hr4.setCell (p := ⟨g4, kn, none⟩) hg4 _).more (by simpa [World.setCell] using hw4)
      have hrY : Reads W5 W5.heap.size 1 (some ⟨g4, 0, none⟩) (k0 + 1) (bv Y) := by rw [← hW5, ← hY]; exact Reads.of_own hst
      rw [hW5]
      clear hW5 hY
      clear hB4 hr4 hst hown4 hcell4 hfr4 hg4 hg4' hcr hw3 hw4 hkn0 hkn1 hl8 hx8 hm8 hmod hlt
      obtain ⟨x1, hx1⟩ : ∃ y, H.bytes s.data.toList X = y := ⟨_, rfl⟩
      obtain ⟨x2, hx2⟩ : ∃ y, H.bytes s.data.toList Y = y := ⟨_, rfl⟩
      obtain ⟨b, hbd⟩ : ∃ b, b = decide (X = Y) := ⟨_, rfl⟩
      have hq : ((x1.toNat : Int) == (x2.toNat : Int)) = b := by
        rw [hbd, ← hx1, ← hx2]
        exact beq_form (H.bytes_one _ (by rw [HXL.out, HYL.out]) HAG.out)
      have HX1 := Lib.hid hx1
      have HX2 := Lib.hid hx2
      have HBD := Lib.hid hbd
      clear hx1 hx2 hbd
      go_wp2_with fail
      refine (bytes_val x1 s (by omega) _ _ _ X HXL.out (by omega) HX1.out _ hrX).mono ?_
      rintro e w6 ⟨rfl, hb'⟩
      have hB6 := blater hB5 (Nat.le_refl _) hb'
      have hrX6 := hrX.later hb'
      have hrY6 := hrY.later hb'
      clear hB5 hrX hrY hb'
      go_wp2_with fail
      refine (bytes_val x2 s (by omega) _ _ _ Y HYL.out (by omega) HX2.out _ hrY6).mono ?_
      rintro e w7 ⟨rfl, hb'⟩
      have hB7 := blater hB6 (Nat.le_refl _) hb'
      have hrX7 := hrX6.later hb'
      have hrY7 := hrY6.later hb'
      clear hB6 hrX6 hrY6 hb'
      go_wp2_with fail
      refine (sameBytes_b b _ _ _ _ _ _ X Y HXL.out HYL.out HBD.out (by omega) (by omega) _ hrX7 hrY7).mono ?_
      rintro e w8 ⟨rfl, hb'⟩
      have hB8 := blater hB7 (Nat.le_refl _) hb'
      clear hB7 hrX7 hrY7 hb'
      go_wp2_with fail
      refine (lives_any _).mono ?_
      rintro e w9 ⟨rfl, hb'⟩
      have hB9 := blater hB8 (Nat.le_refl _) hb'
      clear hB8 hb'
      go_wp2_with fail
      go_ret
      exact ⟨rfl, hB9⟩
    · have hm8 : (((kn : Int) + 1) % 8 != 0) = true := by rw [bne_iff_ne]; omega
      obtain ⟨y, hy⟩ : ∃ y, X[kn + 1]? = some y := ⟨X[kn + 1]'(by rw [HXL.out]; omega), List.getElem?_eq_getElem (by rw [HXL.out]; omega)⟩
      obtain ⟨r2, hrr⟩ : ∃ r, y ^^^ q = r := ⟨_, rfl⟩
      have hx9 := xor8 y q
      rw [hrr] at hx9
      have hcell5 : w4.cell? ⟨g4, kn + 1, none⟩ = some (.int .u8 (y.toNat : Int)) := (hown4.cellAt (kn + 1) (by omega)).trans (bv_getElem _ _ _ hy)
      have hfr5 := hown4.frozenAt (kn + 1)
      have hst2 := (hst.stored (kn + 1) (.int .u8 (r2.toNat : Int))).1
      rw [bv_set] at hst2
      clear hrr hy
      have hl8 : (kn : Int) + 1 < (k0 : Int) + 1 := by omega
      go_wp2_with fail
      refine (hcr _).mono ?_
      rintro e w' ⟨rfl, rfl⟩
      go_wp2_with fail
      obtain ⟨W5, hW5⟩ : ∃ W5, (w4.setCell ⟨g4, kn, none⟩ (.int .u8 (r.toNat : Int))).setCell ⟨g4, kn + 1, none⟩ (.int .u8 (r2.toNat : Int)) = W5 := ⟨_, rfl⟩
      obtain ⟨Y, hY⟩ : ∃ Y, (X.set kn r).set (kn + 1) r2 = Y := ⟨_, rfl⟩
      have HYL := Lib.hid (show Y.length = k0 + 1 by rw [← hY]; simp only [List.length_set]; exact HXL.out)
      have HAG := Lib.hid (show ∀ j : Nat, j / 8 ≠ kn / 8 → X[j]? = Y[j]? by rw [← hY]; intro j hj; rw [List.getElem?_set_ne (fun e => hj (by omega)), List.getElem?_set_ne (fun e => hj (by omega))])
      have hB5 : Below w.heap.size w W5 := by rw [← hW5]; exact (hB4.setCell (p := ⟨g4, kn, none⟩) (by show w.heap.size ≤ g4; omega) _).setCell (p := ⟨g4, kn + 1, none⟩) (by show w.heap.size ≤ g4; omega) _
      have hrX : Reads W5 W5.heap.size 1 (some ⟨g2, 0, none⟩) (k0 + 1) (bv X) := by rw [← hW5]; exact ((hr4.setCell (p := ⟨g4, kn, none⟩) hg4 _).setCell (p := ⟨g4, kn + 1, none⟩) hg4 _).more (by simpa [World.setCell] using hw4)
      have hrY : Reads W5 W5.heap.size 1 (some ⟨g4, 0, none⟩) (k0 + 1) (bv Y) := by rw [← hW5, ← hY]; exact Reads.of_own hst2
      rw [hW5]
      clear hW5 hY
      clear hB4 hr4 hst hown4 hcell4 hfr4 hg4 hg4' hcr hw3 hw4 hkn0 hkn1 hl8 hx8 hm8 hmod hlt hcell5 hfr5 hst2 hx9
      obtain ⟨x1, hx1⟩ : ∃ y, H.bytes s.data.toList X = y := ⟨_, rfl⟩
      obtain ⟨x2, hx2⟩ : ∃ y, H.bytes s.data.toList Y = y := ⟨_, rfl⟩
      obtain ⟨b, hbd⟩ : ∃ b, b = decide (X = Y) := ⟨_, rfl⟩
      have hq : ((x1.toNat : Int) == (x2.toNat : Int)) = b := by
        rw [hbd, ← hx1, ← hx2]
        exact beq_form (H.bytes_one _ (by rw [HXL.out, HYL.out]) HAG.out)
      have HX1 := Lib.hid hx1
      have HX2 := Lib.hid hx2
      have HBD := Lib.hid hbd
      clear hx1 hx2 hbd
      go_wp2_with fail
      refine (bytes_val x1 s (by omega) _ _ _ X HXL.out (by omega) HX1.out _ hrX).mono ?_
      rintro e w6 ⟨rfl, hb'⟩
      have hB6 := blater hB5 (Nat.le_refl _) hb'
      have hrX6 := hrX.later hb'
      have hrY6 := hrY.later hb'
      clear hB5 hrX hrY hb'
      go_wp2_with fail
      refine (bytes_val x2 s (by omega) _ _ _ Y HYL.out (by omega) HX2.out _ hrY6).mono ?_
      rintro e w7 ⟨rfl, hb'⟩
      have hB7 := blater hB6 (Nat.le_refl _) hb'
      have hrX7 := hrX6.later hb'
      have hrY7 := hrY6.later hb'
      clear hB6 hrX6 hrY6 hb'
      go_wp2_with fail
      refine (sameBytes_b b _ _ _ _ _ _ X Y HXL.out HYL.out HBD.out (by omega) (by omega) _ hrX7 hrY7).mono ?_
      rintro e w8 ⟨rfl, hb'⟩
      have hB8 := blater hB7 (Nat.le_refl _) hb'
      clear hB7 hrX7 hrY7 hb'
      go_wp2_with fail
      refine (lives_any _).mono ?_
      rintro e w9 ⟨rfl, hb'⟩
      have hB9 := blater hB8 (Nat.le_refl _) hb'
      clear hB8 hb'
      go_wp2_with fail
      go_ret
      exact ⟨rfl, hB9⟩
  · have hl8 : ¬ ((kn : Int) + 1 < (k0 : Int) + 1) := by omega
    go_wp2_with fail
    refine (hcr _).mono ?_
    rintro e w' ⟨rfl, rfl⟩
    go_wp2_with fail
    obtain ⟨W5, hW5⟩ : ∃ W5, w4.setCell ⟨g4, kn, none⟩ (.int .u8 (r.toNat : Int)) = W5 := ⟨_, rfl⟩
    obtain ⟨Y, hY⟩ : ∃ Y, X.set kn r = Y := ⟨_, rfl⟩
    have HYL := Lib.hid (show Y.length = k0 + 1 by rw [← hY]; simp only [List.length_set]; exact HXL.out)
    have HAG := Lib.hid (show ∀ j : Nat, j / 8 ≠ kn / 8 → X[j]? = Y[j]? by rw [← hY]; intro j hj; rw [List.getElem?_set_ne (fun e => hj (by omega))])
    have hB5 : Below w.heap.size w W5 := by rw [← hW5]; exact hB4.setCell (p := ⟨g4, kn, none⟩) (by show w.heap.size ≤ g4; omega) _
    have hrX : Reads W5 W5.heap.size 1 (some ⟨g2, 0, none⟩) (k0 + 1) (bv X) := by rw [← hW5]; exact (hr4.setCell (p := ⟨g4, kn, none⟩) hg4 _).more (by simpa [World.setCell] using hw4)
    have hrY : Reads W5 W5.heap.size 1 (some ⟨g4, 0, none⟩) (k0 + 1) (bv Y) := by rw [← hW5, ← hY]; exact Reads.of_own hst
    rw [hW5]
    clear hW5 hY
    clear hB4 hr4 hst hown4 hcell4 hfr4 hg4 hg4' hcr hw3 hw4 hkn0 hkn1 hl8 hx8 hlt
    obtain ⟨x1, hx1⟩ : ∃ y, H.bytes s.data.toList X = y := ⟨_, rfl⟩
    obtain ⟨x2, hx2⟩ : ∃ y, H.bytes s.data.toList Y = y := ⟨_, rfl⟩
    obtain ⟨b, hbd⟩ : ∃ b, b = decide (X = Y) := ⟨_, rfl⟩
    have hq : ((x1.toNat : Int) == (x2.toNat : Int)) = b := by
      rw [hbd, ← hx1, ← hx2]
      exact beq_form (H.bytes_one _ (by rw [HXL.out, HYL.out]) HAG.out)
    have HX1 := Lib.hid hx1
    have HX2 := Lib.hid hx2
    have HBD := Lib.hid hbd
    clear hx1 hx2 hbd
    go_wp2_with fail
    refine (bytes_val x1 s (by omega) _ _ _ X HXL.out (by omega) HX1.out _ hrX).mono ?_
    rintro e w6 ⟨rfl, hb'⟩
    have hB6 := blater hB5 (Nat.le_refl _) hb'
    have hrX6 := hrX.later hb'
    have hrY6 := hrY.later hb'
    clear hB5 hrX hrY hb'
    go_wp2_with fail
    refine (bytes_val x2 s (by omega) _ _ _ Y HYL.out (by omega) HX2.out _ hrY6).mono ?_
    rintro e w7 ⟨rfl, hb'⟩
    have hB7 := blater hB6 (Nat.le_refl _) hb'
    have hrX7 := hrX6.later hb'
    have hrY7 := hrY6.later hb'
    clear hB6 hrX6 hrY6 hb'
    go_wp2_with fail
    refine (sameBytes_b b _ _ _ _ _ _ X Y HXL.out HYL.out HBD.out (by omega) (by omega) _ hrX7 hrY7).mono ?_
    rintro e w8 ⟨rfl, hb'⟩
    have hB8 := blater hB7 (Nat.le_refl _) hb'
    clear hB7 hrX7 hrY7 hb'
    go_wp2_with fail
    refine (lives_any _).mono ?_
    rintro e w9 ⟨rfl, hb'⟩
    have hB9 := blater hB8 (Nat.le_refl _) hb'
    clear hB8 hb'
    go_wp2_with fail
    go_ret
    exact ⟨rfl, hB9⟩
end Go.Proofs.Ytfdcfbpflgbjgaa
