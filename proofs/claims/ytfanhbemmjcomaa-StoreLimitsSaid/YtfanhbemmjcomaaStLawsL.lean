/- The law StoreLimits, walked. -/
import Derived.Test.YtfanhbemmjcomaaStOpen
import Derived.Laws.OwnMore
namespace Go.Proofs.Ytfanhbemmjcomaa
open Go.RowKit
set_option linter.unusedVariables false

/-- One cell of a block turned. -/
theorem one_turn {w : World} {g k : Nat} (u : Value) : Turn (fun i => i = g) w (w.setCell ⟨g, k, none⟩ u) :=
  Turn.of_grown (set1_grown w ⟨g, k, none⟩ u) (fun i e => .inl (by injection e with e; exact e.symm))

/-- A cell of an own row: its block, what it holds, that it can be written. -/
theorem own_cell {w : World} {base n c k : Nat} {A : Option Addr} {e : TypeId} {l : List UInt8} (h : w.ownsRow base e 1 (.slice A n c) n (bv l)) (hk : k < n) :
    ∃ g d, A = some ⟨g, 0, none⟩ ∧ base ≤ g ∧ g < w.heap.size ∧ w.cell? ⟨g, k, none⟩ = some (.int .u8 ((d : UInt8).toNat : Int)) ∧ w.frozen? ⟨g, k, none⟩ = false := by
  have hl : l.length = n := by have := h.1; simp [bv] at this; omega
  have hc := Reads.of_own h
  rcases h.2 with ⟨_, h0⟩ | ⟨g, cap, cur, hv, hb, hh, _⟩
  · omega
  · injection hv with h1 h2 h3
    subst h1
    obtain ⟨ad, e1, hlt, hcell⟩ := hc.2 (by omega)
    injection e1 with e1; subst e1
    refine ⟨g, l[k]'(by omega), rfl, hb, hlt, ?_, ?_⟩
    · have := hcell k (.int .u8 ((l[k]'(by omega)).toNat : Int)) (by simp [bv, hl, hk])
      rw [← this]
      congr 1
      unfold Addr.add
      split <;> simp_all
    · simp [World.frozen?, hh]
theorem below_one {w : World} {g k B : Nat} (u : Value) (hB : B ≤ w.heap.size) (hg : B ≤ g) : Below B w (w.setCell ⟨g, k, none⟩ u) :=
  (one_turn u).below hB (fun i hi => by omega)

theorem made_bytes (k : Nat) : (madeCells #[.int .u8 0] (k * 1)).toList = bv (List.replicate k 0) := by
  apply List.ext_getElem
  · simp [madeCells, bv]
  · intro i h1 h2
    simp [madeCells, bv, Nat.mod_one]
/-- One byte of a row is set. -/
theorem Reads.set {w : World} {B g n k : Nat} {l : List UInt8} (h : Reads w B 1 (some ⟨g, 0, none⟩) n (bv l)) (hk : k < n) (d : UInt8) : Reads (w.setCell ⟨g, k, none⟩ (.int .u8 (d.toNat : Int))) B 1 (some ⟨g, 0, none⟩) n (bv (l.set k d)) := by
  obtain ⟨h1, h2⟩ := h
  refine ⟨by rw [← bv_set, List.length_set]; exact h1, fun hn => ?_⟩
  obtain ⟨ad, e, hb, hc⟩ := h2 hn
  injection e with e; subst e
  refine ⟨_, rfl, hb, fun j u hu => ?_⟩
  have ea : ∀ i, (⟨g, 0, none⟩ : Addr).add i = ⟨g, i, none⟩ := fun i => by unfold Addr.add; split <;> simp_all
  rw [ea]
  rw [← bv_set] at hu
  by_cases hjk : k = j
  · subst hjk
    have hl : k < (bv l).length := by omega
    rw [List.getElem?_set_self hl] at hu
    injection hu with hu; subst hu
    have := hc k ((bv l)[k]) (List.getElem?_eq_getElem hl)
    rw [ea] at this
    exact World.cell?_setCell_same _ _ _ this
  · rw [List.getElem?_set_ne hjk] at hu
    rw [World.cell?_setCell_other _ _ _ _ (by intro e; injection e with _ e _; exact hjk e)]
    have := hc j u hu
    rwa [ea] at this
theorem S.log_cut {L : List S.R} {n k : Nat} (hn : (S.log L).length = n) (h : S.Cut L n k) : L.take k = L := by
  obtain ⟨h1, h2, h3⟩ := h
  by_cases hk : k < L.length
  · have h4 := h3 hk
    have : S.log L = S.log (L.take (k + 1)) ++ S.log (L.drop (k + 1)) := by
      unfold S.log
      rw [← List.flatMap_append, List.take_append_drop]
    have := congrArg List.length this
    rw [List.length_append] at this
    omega
  · exact List.take_of_length_le (by omega)
theorem Good_one {b : List UInt8} (h : b.length ≤ 65536) : S.Good [.obj b] := S.Good.snoc (L := []) S.Good.nil ⟨rfl, h⟩

set_option maxRecDepth 10000 in
set_option maxHeartbeats 8000000 in
theorem storeLimits_walk (n c : Int) (w : World) (hn : (Lit.int .i64 n).wf = true) (hc : (Lit.int .u8 c).wf = true) :
    Calls Try.prog 9 #[.int .i64 n, .int .u8 c] w fun e W' => e = .returned (.bool true) ∧ Below w.heap.size w W' := by
  obtain ⟨i0, hi, hz0, hz1, hz2⟩ := info_parts infoByte
  have hb := wf_bd hn
  have har := arN_bd n 6 (by omega)
  obtain ⟨kn, hkn⟩ : ∃ kn : Nat, arN n 6 = (kn : Int) := ⟨(arN n 6).toNat, by omega⟩
  have hkn6 : kn < 6 := by omega
  obtain ⟨d, hd⟩ : ∃ d : UInt8, (d.toNat : Int) = c := ⟨toByte c, toByte_back hc⟩
  subst hd
  obtain ⟨k, hk⟩ : ∃ k : Nat, (65534 : Int) + (kn : Int) = (k : Int) := ⟨65534 + kn, by omega⟩
  obtain ⟨km, hkm⟩ : ∃ m : Nat, (k : Int) - 1 = (m : Int) := ⟨k - 1, by omega⟩
  have HKN := Lib.hid hkn
  obtain ⟨w1, hmk, hown, hgr⟩ := run_makeSlice_full (P := Try.prog) (w := w) w.heap.size 22 5 i0 (.int .u8 0) 1 Try.underlying22 hi hz0 hz1 .i64 .i64 k (by omega) (by rw [hz2]; omega) (by unfold maxLen; omega) (Nat.le_refl _)
  have hrow : w1.ownsRow w.heap.size 5 1 (.slice (some ⟨w.heap.size, 0, none⟩) k k) k (bv (List.replicate k 0)) := by rw [← made_bytes]; exact hown
  obtain ⟨bl, hbl⟩ : ∃ l, (List.replicate k (0 : UInt8)).set km d = l := ⟨_, rfl⟩
  have hbk : bl.length = k := by rw [← hbl]; simp
  have hkm1 : km < k := by omega
  obtain ⟨g0, d0, e0, _, hg0, cb, fb⟩ := own_cell hrow hkm1
  injection e0 with e0; injection e0 with e0; subst e0
  have hrb := (Reads.of_own hrow).set hkm1 d
  rw [hbl] at hrb
  have b1 : Below w.heap.size w w1 := ⟨hgr.os, hgr.tape, hgr.output, hgr.size, fun i hi => hgr.block i hi (by simp)⟩
  have HBK := Lib.hid hbk
  obtain ⟨x, hx⟩ : ∃ x, S.key bl = x := ⟨_, rfl⟩
  have HX := Lib.hid hx
  clear hown har hc hn hbl hbk hx
  go_enter Try.func9, Try.ntmps9
  go_wp2_with fail
  refine (around_nat n 6 kn hb.1 hb.2 (by omega) (by omega) HKN.out w).mono ?_
  rintro e w2 ⟨rfl, rfl⟩
  go_wp2_with fail
  obtain ⟨w3, hw3⟩ : ∃ y, w1.setCell ⟨w.heap.size, km, none⟩ (.int .u8 (d.toNat : Int)) = y := ⟨_, rfl⟩
  have hz3 : w3.heap.size = w1.heap.size := by rw [← hw3]; simp [World.setCell]
  rw [hw3] at hrb ⊢
  have b3 : Below w.heap.size w w3 := by rw [← hw3]; exact b1.trans (below_one _ b1.size (Nat.le_refl _))
  rw [← hz3] at hrb hg0
  refine (new_any w3).mono ?_
  rintro e w4 ⟨g, bo, bn, rfl, hs4, hd4⟩
  have b4 := blater b3 (Nat.le_refl _) hd4
  have hr4 := hrb.later hd4
  clear hw3 cb fb hmk hrow hgr b1
  go_wp2_with fail
  by_cases hbig : 65536 < k
  · have hP := Lib.hid (show S.put [] bl = ([], 0, 2) by unfold S.put; rw [if_pos (by rw [HBK.out]; exact hbig)])
    have hbig2 : (65536 : Int) < (k : Int) := by omega
    refine (put_any w3.heap.size g bo bn 0 _ [] (some ⟨w.heap.size, 0, none⟩) k k bl HBK.out (by simp) _ _ _ hP.out _ hs4 hr4 (by rintro ad e; injection e with e; subst e; exact Nat.lt_of_lt_of_le hg0 hd4.size) (by rintro ad e hf; injection e with e; subst e; have := hs4.far_base _ hf; exact absurd this (Nat.not_le.2 hg0))).mono ?_
    rintro e w5 ⟨v5, rfl, hs5, ht5, _⟩
    have b5 := b4.trans (hs4.turn_below ht5 b3.size)
    rw [show (((0 : UInt64).toNat : Nat) : Int) = 0 from rfl]
    go_wp2_with fail
    refine (sbytes_any w3.heap.size g bo bn 0 0 v5 [] rfl _ hs5).mono ?_
    rintro e w6 ⟨A6, c6, rfl, hc6, hown6, hd6⟩
    have b6 := blater b5 (Nat.le_refl _) hd6
    go_wp2_with fail
    refine (lives_any _).mono ?_
    rintro e w7 ⟨rfl, hd7⟩
    have b7 := blater b6 (Nat.le_refl _) hd7
    go_wp2_with fail
    go_ret
    exact ⟨rfl, b7⟩
  · have hP := Lib.hid (show S.put [] bl = ([.obj bl], x, 0) by unfold S.put; rw [if_neg (by rw [HBK.out]; exact hbig), HX.out]; rfl)
    have hbig2 : ¬ (65536 : Int) < (k : Int) := by omega
    have hgood : S.Good [.obj bl] := Good_one (by rw [HBK.out]; omega)
    obtain ⟨nl, hnl⟩ : ∃ m, (S.log [.obj bl]).length = m := ⟨_, rfl⟩
    have HNL := Lib.hid hnl
    have HGD := Lib.hid hgood
    clear hnl hgood
    refine (put_any w3.heap.size g bo bn 0 _ [] (some ⟨w.heap.size, 0, none⟩) k k bl HBK.out (by simp) _ _ _ hP.out _ hs4 hr4 (by rintro ad e; injection e with e; subst e; exact Nat.lt_of_lt_of_le hg0 hd4.size) (by rintro ad e hf; injection e with e; subst e; have := hs4.far_base _ hf; exact absurd this (Nat.not_le.2 hg0))).mono ?_
    rintro e w5 ⟨v5, rfl, hs5, ht5, _⟩
    have b5 := b4.trans (hs4.turn_below ht5 b3.size)
    have hr5 := ht5.reads hr4 (Nat.le_refl _) (by rintro ad e hf; injection e with e; subst e; have := hs4.far_base _ hf; exact absurd this (Nat.not_le.2 hg0))
    have hr5 := hr5.more ht5.size
    go_wp2_with fail
    refine (sbytes_any w3.heap.size g bo bn 0 nl v5 _ HNL.out _ hs5).mono ?_
    rintro e w6 ⟨A6, c6, rfl, hc6, hown6, hd6⟩
    have b6 := blater b5 (Nat.le_refl _) hd6
    have hr6 := hr5.later hd6
    have hro6 := Reads.of_own hown6
    go_wp2_with fail
    refine (open_any A6 nl c6 [.obj bl] HGD.out (by simp) (Nat.le_of_eq HNL.out.symm) hc6 w6 (by rw [List.take_of_length_le (Nat.le_of_eq HNL.out)]; exact hro6)).mono ?_
    rintro e w7 ⟨g7, bo7, bn7, v7, k7, rfl, hs7, hcut, hd7⟩
    rw [S.log_cut HNL.out hcut, HNL.out] at hs7
    have b7 := blater b6 (Nat.le_refl _) hd7
    have hr7 := hr6.later hd7
    clear hs4 hs5 hr4 hr5 hr6 hown6 hro6 hd6 hd7 hcut b4 b5 b6 ht5 hrb
    go_wp2_with fail
    refine (get_some _ g7 bo7 bn7 nl k v7 [.obj bl] x bl (S.get_obj_pos [] HX.out) HBK.out _ hs7).mono ?_
    rintro e w8 ⟨A8, c8, rfl, hc8, hown8, hd8⟩
    have b8 := blater b7 (Nat.le_refl _) hd8
    have q1 := conv_string w8 A8 k c8 bl HBK.out (Reads.of_own hown8)
    have q2 := conv_string w8 (some ⟨w.heap.size, 0, none⟩) k k bl HBK.out (hr7.later hd8)
    clear hs7 hown8 hd8 hr7
    go_wp2_with fail
    refine (lives_any _).mono ?_
    rintro e w9 ⟨rfl, hd9⟩
    have b9 := blater b8 (Nat.le_refl _) hd9
    go_wp2_with fail
    go_ret
    exact ⟨rfl, b9⟩
end Go.Proofs.Ytfanhbemmjcomaa
