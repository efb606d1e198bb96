/- The reference's Bytes and Pair, the program's Pair. -/
import Derived.Test.YtfanhbemmjcomaaHashRef
namespace Go.Proofs.Ytfanhbemmjcomaa
open Go.RowKit
set_option linter.unusedVariables false

set_option maxRecDepth 10000 in
set_option maxHeartbeats 2000000 in
theorem rbytes_any (s : ByteArray) (hs : s.size ≤ 1000000) (A : Option Addr) (len cap : Nat) (bs : List UInt8) (hl : bs.length = len) (hlen : len ≤ 1000000) (w : World) (hrd : Reads w w.heap.size 1 A len (bv bs)) :
    Calls Try.prog 50 #[.string s, .slice A len cap] w fun e W' => e = .returned (.int .u64 ((H.bytes s.data.toList bs).toNat : Int)) ∧ Below w.heap.size w W' := by
  have HL := Lib.hid hl
  obtain ⟨i0, hi, hz0, hz1, hz2⟩ := info_parts infoInt
  have HC := words_any A len cap bs hl hlen w.heap.size w (Nat.le_refl _) hrd
  clear hl
  go_enter Try.func50, Try.ntmps50
  go_wp2_with fail
  refine HC.mono ?_
  rintro e w1 ⟨v, rfl, hown, hb⟩
  clear HC
  obtain ⟨A1, c1, rfl, hc1, hr1, _⟩ := own_reads hown
  have hnw : H.nw bs ≤ 130000 := by unfold H.nw; rw [HL.out]; omega
  obtain ⟨ws, hws⟩ : ∃ ws, H.words bs = ws := ⟨_, rfl⟩
  obtain ⟨nws, hnws⟩ : ∃ nws, H.nw bs = nws := ⟨_, rfl⟩
  have HWL := Lib.hid (show ws.length = nws by rw [← hws, H.words_len, hnws])
  rw [hws] at hr1
  rw [hnws] at hr1 hnw ⊢
  have HWS := Lib.hid hws
  clear hown hws hnws hrd
  go_wp2
  go_loopw [6, 7] (fun v i wr => ∃ k : Nat, k ≤ nws ∧ i = .int .i64 (k : Int) ∧ wr.ownsRow w1.heap.size 3 1 v k ((ws.take k).map xv) ∧ Below w1.heap.size w1 wr) (fun _ i _ => nws - (intOf i).toNat)
  case atStart => exact ⟨0, Nat.zero_le _, rfl, World.ownsRow_nil _ _ _ _, Below.refl _ _⟩
  case round =>
    obtain ⟨k, hk, rfl, hown, hbr⟩ := hrel
    have hwb := hbr.size
    by_cases hlt : k < nws
    · obtain ⟨ad, u, rfl, _, hu, hcell⟩ := (hr1.below hbr).at_ hlt
      obtain ⟨x, hx, rfl⟩ := uvs_at hu
      have HX := Lib.hid hx
      clear hu hx
      go_wp2_with (at_builtin; refine wpList_append_own _ rfl _ _ 40 rfl w1.heap.size 3 i0 (.int .i64 0) 1 8 Try.underlying40 hi hz0 hz1 hz2 rfl (by decide) _ _ _ rfl (hown.alloc _) ⟨wr.heap.size, 0, none⟩ 1 1 [xv x] rfl rfl (cell_one_new _ _ _) (by simp [Value.oneCell', xv]) (by unfold maxLen; omega) (by omega) (by simp; omega) ?_; intro v' w2 hown' hgrow _)
      go_roundw
      case rel => exact ⟨k + 1, by omega, by go_num, by rw [List.take_add_one, HX.out]; simpa using hown', hbr.trans (below_appended hown hwb hgrow)⟩
      case measure => simp [intOf]; omega
    · have hkn := Lib.hid (show ws.take k = ws from List.take_of_length_le (by rw [HWL.out]; omega))
      have hkk := Lib.hid (show k = nws by omega)
      go_wp2_with (at_builtin; refine wpList_append_own _ rfl _ _ 40 rfl w1.heap.size 3 i0 (.int .i64 0) 1 8 Try.underlying40 hi hz0 hz1 hz2 rfl (by decide) _ _ _ rfl (hown.alloc _) ⟨wr.heap.size, 0, none⟩ 1 1 [.int .i64 (len : Int)] rfl rfl (cell_one_new _ _ _) (by simp [Value.oneCell']) (by unfold maxLen; omega) (by omega) (by simp; omega) ?_; intro v' w2 hown' hgrow _; obtain ⟨g', cap', rfl⟩ := ownsRow_succ hown'; have hrd2 := Reads.of_own hown'; rw [iv_snoc, hkn.out] at hrd2)
      refine (rsum_any s hs _ (k + 1) _ ((ws.map fun x => wrap64 (x.toNat : Int)) ++ [(len : Int)]) (by simp [HWL.out, hkk.out]) (by omega) _ hrd2).mono ?_
      rintro e w3 ⟨rfl, hb3⟩
      have hB : Below w.heap.size w w3 := by
        have hb2 : Below w1.heap.size w1 w2 := hbr.trans (below_appended hown hwb hgrow)
        exact (hb.trans (hb2.mono hb.size)).trans (hb3.mono (Nat.le_trans hb.size hb2.size))
      clear hgrow hown' hown
      go_wp2
      go_ret
      refine ⟨?_, hB⟩
      show Ending.returned (.int .u64 ((H.sum s.data.toList (wv ((ws.map fun x => wrap64 (x.toNat : Int)) ++ [(len : Int)]))).toNat : Int)) = _
      rw [wv_snoc, wv_wrap, ← HWS.out, H.bytes, HL.out, ofInt_nat _ (by omega)]


end Go.Proofs.Ytfanhbemmjcomaa
