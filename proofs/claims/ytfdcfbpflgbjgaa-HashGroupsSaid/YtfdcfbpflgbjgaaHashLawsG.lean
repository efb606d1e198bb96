/- The walk of HashGroups. -/
import Derived.Test.YtfdcfbpflgbjgaaHashLawsC
namespace Go.Proofs.Ytfdcfbpflgbjgaa
open Go.RowKit
set_option linter.unusedVariables false

set_option maxHeartbeats 2000000 in
theorem hashGroups_walk (a0 : ByteArray) (a1 : Option Addr) (len1 cap1 : Nat) (z1 : List Int) (w : World) (w0 : a0.size ≤ maxLen) (w1 : IsRow .u8 w a1 len1 cap1 z1) :
    Calls Try.prog 8 #[.string a0, .slice a1 len1 cap1] w fun e w' => e = .returned (.bool true) ∧ Below w.heap.size w w' := by
  obtain ⟨l, hl, hc, hm, hr⟩ := isRow_bytes w1
  clear w1
  obtain ⟨i0, hi0, hz0, hz1, hz2⟩ := info_parts infoInt
  obtain ⟨j0, hj0, hy0, hy1, hy2⟩ := info_parts infoByte
  obtain ⟨m, hm2⟩ : ∃ m, (l.take 60).length = m := ⟨_, rfl⟩
  have hm60 : m ≤ 60 := by rw [← hm2, List.length_take]; omega
  have hc1 := few_reads a1 len1 cap1 60 l m hl hc hm (by omega) hm2
  clear hl hm hc
  obtain ⟨C, hC⟩ : ∃ C, l.take 60 = C := ⟨_, rfl⟩
  rw [hC] at hc1 hm2
  clear hC
  have HML := Lib.hid hm2
  obtain ⟨nws, hnws⟩ : ∃ n, H.nw C = n := ⟨_, rfl⟩
  have hnw : nws ≤ 8 := by rw [← hnws]; unfold H.nw; omega
  obtain ⟨ws, hws⟩ : ∃ ws, H.words C = ws := ⟨_, rfl⟩
  have HWL := Lib.hid (show ws.length = nws by rw [← hws, H.words_len, hnws])
  have HWS := Lib.hid hws
  have HNW := Lib.hid hnws
  clear hm2 hnws hws
  go_enter Try.func8, Try.ntmps8
  go_wp2_with fail
  refine (short_any a0 20 w0 (by omega) _).mono ?_
  rintro e w' ⟨⟨s, rfl, hs, _⟩, rfl⟩
  obtain ⟨x, hx⟩ : ∃ x, H.bytes s.data.toList C = x := ⟨_, rfl⟩
  have hx2 : H.sum s.data.toList (wv ((ws.map fun x => wrap64 (x.toNat : Int)) ++ [(m : Int)])) = x := by
    rw [wv_snoc, wv_wrap, ← HWS.out, ← hx, H.bytes, HML.out, ofInt_nat _ (by omega)]
  obtain ⟨x3, hx3⟩ : ∃ x, H.bytes s.data.toList (C ++ [0]) = x := ⟨_, rfl⟩
  have hne : m % 8 ≠ 0 → x3 ≠ x := by
    intro h8
    rw [← hx3, ← hx]
    exact H.bytes_longer _ (by rw [HML.out]; exact h8) (by rw [HML.out]; omega)
  have HX := Lib.hid hx
  have HX2 := Lib.hid hx2
  have HX3 := Lib.hid hx3
  have HNE := Lib.hid hne
  clear hx hx2 hx3 hne
  go_wp2_with fail
  refine (hc1 _ hr).mono ?_
  rintro e w2 ⟨A2, c2, rfl, hc2, hown, hb2⟩
  clear hc1
  have hr2 := Reads.of_own hown
  have hcp2 := own_cap hown
  clear hown
  have HC := words_any A2 m c2 C HML.out (by omega) w2.heap.size w2 (Nat.le_refl _) hr2
  rw [HWS.out, HNW.out] at HC
  go_wp2_with fail
  refine HC.mono ?_
  rintro e w3 ⟨v, rfl, hown, hb⟩
  clear HC
  obtain ⟨A1, c1, rfl, hc1, hr1, _⟩ := own_reads hown
  have hr3 := hr2.later hb
  have hb3 := blater hb2 (Nat.le_refl _) hb
  clear hown hb hb2 hr2 hr
  go_wp2
  go_loopw [8, 9] (fun v i wr => ∃ k : Nat, k ≤ nws ∧ i = .int .i64 (k : Int) ∧ wr.ownsRow w3.heap.size 3 1 v k ((ws.take k).map xv) ∧ Below w3.heap.size w3 wr) (fun _ i _ => nws - (intOf i).toNat)
  case atStart => exact ⟨0, Nat.zero_le _, rfl, World.ownsRow_nil _ _ _ _, Below.refl _ _⟩
  case round =>
    obtain ⟨k, hk, rfl, hown, hbr⟩ := hrel
    have hwb := hbr.size
    by_cases hlt : k < nws
    · obtain ⟨ad, u, rfl, _, hu, hcell⟩ := (hr1.below hbr).at_ hlt
      obtain ⟨x, hx, rfl⟩ := uvs_at hu
      have HXX := Lib.hid hx
      clear hu hx
      go_wp2_with (at_builtin; refine wpList_append_own _ rfl _ _ 22 rfl w3.heap.size 3 i0 (.int .i64 0) 1 8 Try.underlying22 hi0 hz0 hz1 hz2 rfl (by decide) _ _ _ rfl (hown.alloc _) ⟨wr.heap.size, 0, none⟩ 1 1 [xv x] rfl rfl (cell_one_new _ _ _) (by simp [Value.oneCell', xv]) (by unfold maxLen; omega) (by omega) (by simp; omega) ?_; intro v' w4 hown' hgrow _)
      go_roundw
      case rel => exact ⟨k + 1, by omega, by go_num, by rw [List.take_add_one, HXX.out]; simpa using hown', hbr.trans (below_appended hown hwb hgrow)⟩
      case measure => simp [intOf]; omega
    · have hkn := Lib.hid (show ws.take k = ws from List.take_of_length_le (by rw [HWL.out]; omega))
      have hkk := Lib.hid (show k = nws by omega)
      have hr4 := hr3.later hbr
      go_wp2_with fail
      refine (bytes_val x s (by omega) _ _ _ _ HML.out (by omega) HX.out _ hr4).mono ?_
      rintro e w5 ⟨rfl, hb'⟩
      have hown5 : w5.ownsRow w3.heap.size 3 1 u8 k ((ws.take k).map xv) := own_below hown hb'
      have hB5 := blater hbr (Nat.le_refl _) hb'
      have hw5 := hB5.size
      clear hown hr4 hbr hwb hb'
      go_wp2_with (at_builtin; refine wpList_append_own _ rfl _ _ 22 rfl w3.heap.size 3 i0 (.int .i64 0) 1 8 Try.underlying22 hi0 hz0 hz1 hz2 rfl (by decide) _ _ _ rfl (hown5.alloc _) ⟨w5.heap.size, 0, none⟩ 1 1 [.int .i64 (m : Int)] rfl rfl (cell_one_new _ _ _) (by simp [Value.oneCell']) (by unfold maxLen; omega) (by omega) (by simp; omega) ?_; intro v' w6 hown' hgrow _; obtain ⟨g', cap', rfl⟩ := ownsRow_succ hown'; have hrd2 := Reads.of_own hown'; rw [iv_snoc, hkn.out] at hrd2)
      have hB6 : Below w3.heap.size w3 w6 := hB5.trans (below_appended hown5 hw5 hgrow)
      clear hown' hgrow hown5 hB5 hw5
      refine (sum_val x s (by omega) _ (k + 1) _ ((ws.map fun x => wrap64 (x.toNat : Int)) ++ [(m : Int)]) (by simp [HWL.out, hkk.out]) (by omega) HX2.out _ hrd2).mono ?_
      rintro e w7 ⟨rfl, hb'⟩
      have hB7 := blater hB6 (Nat.le_refl _) hb'
      have hr7 := hr3.later hB7
      have hb7 := blater hb3 (Nat.le_refl _) hB7
      clear hB6 hB7 hb' hrd2 hr3 hb3 hr1
      have hc8 := few_reads A2 m c2 60 C m HML.out hc2 hcp2 (by omega) (by rw [List.take_of_length_le (by rw [HML.out]; omega)]; exact HML.out)
      rw [List.take_of_length_le (by rw [HML.out]; omega)] at hc8
      go_wp2_with fail
      refine (hc8 _ hr7).mono ?_
      rintro e w8 ⟨A8, c8, rfl, hcc8, hown8, hb'⟩
      clear hc8
      have hw8 := hb'.size
      have hr8 := hr7.below hb'
      by_cases h8 : m % 8 = 0
      · have h8' : ((m : Int) % 8 == 0) = true := by rw [beq_iff_eq]; omega
        clear h8
        go_wp2_with (at_builtin; refine wpList_append_own _ rfl _ _ 30 rfl w7.heap.size 5 j0 (.int .u8 0) 1 1 Try.underlying30 hj0 hy0 hy1 hy2 rfl (by decide) _ _ _ rfl (hown8.alloc _) ⟨w8.heap.size, 0, none⟩ 1 1 [.int .u8 0] rfl rfl (cell_one_new _ _ _) (by simp [Value.oneCell']) (by unfold maxLen; omega) (by omega) (by simp; omega) ?_; intro v' w9 hown' hgrow _; obtain ⟨g', cap', rfl⟩ := ownsRow_succ hown'; have hrd2 := Reads.of_own hown'; rw [bv_snoc0] at hrd2)
        have hB9 : Below w7.heap.size w7 w9 := hb'.trans (below_appended hown8 hw8 hgrow)
        have hr9 := hr7.later hB9
        have hb9 := blater hb7 (Nat.le_refl _) hB9
        clear hown' hgrow hown8 hB9 hr7 hb7 hb' hr8 hw8
        refine (lives_any _).mono ?_
        rintro e w12 ⟨rfl, hb'⟩
        have hb12 := blater hb9 (Nat.le_refl _) hb'
        clear hb9 hb'
        go_wp2_with fail
        go_ret
        exact ⟨rfl, hb12⟩
      · have h8' : ((m : Int) % 8 == 0) = false := by rw [beq_eq_false_iff_ne]; omega
        have n3 := ne_form (HNE.out h8)
        clear h8
        go_wp2_with (at_builtin; refine wpList_append_own _ rfl _ _ 30 rfl w7.heap.size 5 j0 (.int .u8 0) 1 1 Try.underlying30 hj0 hy0 hy1 hy2 rfl (by decide) _ _ _ rfl (hown8.alloc _) ⟨w8.heap.size, 0, none⟩ 1 1 [.int .u8 0] rfl rfl (cell_one_new _ _ _) (by simp [Value.oneCell']) (by unfold maxLen; omega) (by omega) (by simp; omega) ?_; intro v' w9 hown' hgrow _; obtain ⟨g', cap', rfl⟩ := ownsRow_succ hown'; have hrd2 := Reads.of_own hown'; rw [bv_snoc0] at hrd2)
        have hB9 : Below w7.heap.size w7 w9 := hb'.trans (below_appended hown8 hw8 hgrow)
        have hr9 := hr7.later hB9
        have hb9 := blater hb7 (Nat.le_refl _) hB9
        clear hown' hgrow hown8 hB9 hr7 hb7 hb' hr8 hw8
        refine (bytes_val x3 s (by omega) _ (m + 1) _ _ (by simp [HML.out]) (by omega) HX3.out _ hrd2).mono ?_
        rintro e w10 ⟨rfl, hb'⟩
        have hb10 := blater hb9 (Nat.le_refl _) hb'
        have hr10 := hr9.later hb'
        clear hb9 hb' hr9
        go_wp2_with fail
        refine (bytes_val x s (by omega) _ _ _ _ HML.out (by omega) HX.out _ hr10).mono ?_
        rintro e w11 ⟨rfl, hb'⟩
        have hb11 := blater hb10 (Nat.le_refl _) hb'
        clear hb10 hb' hr10
        go_wp2_with fail
        refine (lives_any _).mono ?_
        rintro e w12 ⟨rfl, hb'⟩
        have hb12 := blater hb11 (Nat.le_refl _) hb'
        clear hb11 hb'
        go_wp2_with fail
        go_ret
        exact ⟨rfl, hb12⟩
end Go.Proofs.Ytfdcfbpflgbjgaa
