/- The reference's hash: Words, Sum, Bytes, Pair; and the program's Pair. Each returns H.words, H.sum, H.bytes, H.pair; nothing that lay before has turned. -/
import Derived.Test.YtfanhbemmjcomaaRefSmall
namespace Go.Proofs.Ytfanhbemmjcomaa
open Go.RowKit
set_option linter.unusedVariables false

theorem infoU64 : (Try.prog.info? 23).map (fun i => (i.zero, i.size, i.bytes)) = some (some (.int .u64 0), 1, 8) := by kernel_rfl

namespace H
/-- The word of group k over its bytes from the j-th on. -/
def sw (l : List UInt8) (k j : Nat) : UInt64 := UInt64.ofNat (leN ((grp l k).drop j))
theorem toNat_sw (l : List UInt8) (k j : Nat) : (sw l k j).toNat = leN ((grp l k).drop j) := by
  have h := leN_lt ((grp l k).drop j)
  have h2 : ((grp l k).drop j).length ≤ 8 := by rw [List.length_drop, grp_len]; omega
  have h3 : 256 ^ ((grp l k).drop j).length ≤ 256 ^ 8 := Nat.pow_le_pow_right (by omega) h2
  have : (256 : Nat) ^ 8 = 18446744073709551616 := by decide
  exact ofNat_toNat (by omega)
theorem sw_zero (l : List UInt8) (k : Nat) : sw l k 0 = word l k := rfl
theorem sw_end {l : List UInt8} {k j : Nat} (h : min 8 (l.length - 8 * k) ≤ j) : sw l k j = 0 := by
  unfold sw
  rw [List.drop_eq_nil_of_le (by rw [grp_len]; exact h)]; rfl
theorem sw_step {l : List UInt8} {k j : Nat} {c : UInt8} (hj : j < 8) (hc : l[8 * k + j]? = some c) :
    IntKind.u64.wrap (IntKind.u64.wrap (256 * ((sw l k (j + 1)).toNat : Int)) + IntKind.u64.wrap (c.toNat : Int)) = ((sw l k j).toNat : Int) := by
  have hg : (grp l k)[j]? = some c := by rw [grp, List.getElem?_take_of_lt hj, List.getElem?_drop]; exact hc
  have hlt : j < (grp l k).length := (List.getElem?_eq_some_iff.1 hg).1
  have hd : (grp l k).drop j = c :: (grp l k).drop (j + 1) := by
    rw [List.drop_eq_getElem_cons hlt]
    congr 1
    have := List.getElem?_eq_getElem hlt
    rw [hg] at this
    exact (Option.some.inj this).symm
  have e := toNat_sw l k j
  rw [hd] at e
  simp only [leN] at e
  have e1 := toNat_sw l k (j + 1)
  have h1 := u64_lt (sw l k j)
  have hcl := c.toNat_lt
  rw [← e1] at e
  rw [IntWalk.u64_in (256 * ((sw l k (j + 1)).toNat : Int)) (by omega), IntWalk.u64_in (c.toNat : Int) (by omega), IntWalk.u64_in _ (by omega)]
  omega
end H

set_option maxRecDepth 10000 in
set_option maxHeartbeats 1000000 in
theorem words_any (A : Option Addr) (len cap : Nat) (bs : List UInt8) (hl : bs.length = len) (hlen : len ≤ 1000000) (B : Nat) (w : World) (hB : B ≤ w.heap.size) (hrd : Reads w B 1 A len (bv bs)) :
    Calls Try.prog 64 #[.slice A len cap] w fun e w' => ∃ v, e = .returned v ∧ w'.ownsRow w.heap.size 23 1 v (H.nw bs) (uvs (H.words bs)) ∧ Below w.heap.size w w' := by
  have HL := Lib.hid hl
  clear hl
  have hnw : H.nw bs ≤ 130000 := by unfold H.nw; rw [HL.out]; omega
  obtain ⟨i0, hi0, hz0, hz1, hz2⟩ := info_parts infoU64
  go_enter Try.func64, Try.ntmps64
  go_wp2
  go_loopw [3, 4] (fun v i wr => ∃ k : Nat, k ≤ H.nw bs ∧ i = .int .i64 (8 * (k : Int)) ∧ wr.ownsRow w.heap.size 23 1 v k (uvs ((List.range k).map (H.word bs))) ∧ Below w.heap.size w wr) (fun _ i _ => H.nw bs * 8 - (intOf i).toNat)
  case atStart => exact ⟨0, Nat.zero_le _, rfl, World.ownsRow_nil _ _ _ _, Below.refl _ _⟩
  case round =>
    obtain ⟨k, hk, rfl, hown, hb⟩ := hrel
    by_cases hlt : 8 * k < len
    · have hlt2 : (8 * (k : Int)) < (len : Int) := by omega
      have hkn : k < H.nw bs := by unfold H.nw; rw [HL.out]; omega
      obtain ⟨L, hL8, hLs, hLm⟩ : ∃ L : Nat, L ≤ 8 ∧ 8 * k + L ≤ len ∧ Hid (L = min 8 (len - 8 * k)) := ⟨min 8 (len - 8 * k), by omega, by omega, rfl⟩
      have hLp : 1 ≤ L := by have := hLm.out; omega
      have hcase : (L = 8 ∧ 8 * k + 8 ≤ len) ∨ (8 * k + L = len ∧ len < 8 * k + 8) := by have := hLm.out; omega
      go_wp2
      all_goals
        obtain ⟨wo, rfl⟩ : ∃ wo : World, wo = wr := ⟨_, rfl⟩
        go_loop [5, 6] (fun v i => ∃ j : Nat, j ≤ L ∧ i = .int .i64 (8 * (k : Int) + (j : Int) - 1) ∧ v = .int .u64 ((H.sw bs k j).toNat : Int)) (fun _ i => (intOf i + 1).toNat)
        case atStart => exact ⟨L, Nat.le_refl _, by go_num, by rw [H.sw_end (by rw [HL.out, hLm.out]; exact Nat.le_refl _)]; rfl⟩
        case round =>
          obtain ⟨j, hjL, rfl, rfl⟩ := hrel
          cases j with
          | succ j =>
            have h2 : 8 * k + j < len := by omega
            obtain ⟨ad, u, rfl, _, hu, hcell⟩ := (hrd.below (hb.mono hB)).at_ h2
            obtain ⟨c, hc, rfl⟩ := bv_at hu
            have HC := Lib.hid hc
            clear hc hu
            go_wp2
            go_round
            case rel => exact ⟨j, by omega, by go_num, by rw [H.sw_step (by omega) HC.out]⟩
            case measure => simp [intOf]; omega
          | zero =>
            have hwb := hb.size
            go_wp2_with (at_builtin; refine wpList_append_own _ rfl _ _ 107 rfl w.heap.size 23 i0 (.int .u64 0) 1 8 Try.underlying107 hi0 hz0 hz1 hz2 rfl (by decide) _ _ _ rfl (hown.alloc _) ⟨wo.heap.size, 0, none⟩ 1 1 [.int .u64 ((H.sw bs k 0).toNat : Int)] rfl rfl (cell_one_new _ _ _) (by simp [Value.oneCell']) (by unfold maxLen; omega) (by omega) (by simp; omega) ?_; intro v' w1 hown' hgrow _)
            go_roundw
            case rel => exact ⟨k + 1, hkn, by go_num, by rw [H.words_succ]; simpa [uvs, H.sw_zero] using hown', hb.trans (below_appended hown hwb hgrow)⟩
            case measure => simp [intOf]; omega
    · have hkn := Lib.hid (show k = H.nw bs by unfold H.nw at hk ⊢; rw [HL.out] at hk ⊢; omega)
      go_wp2
      go_ret
      exact ⟨_, rfl, by rw [← hkn.out]; simpa [H.words, ← hkn.out] using hown, hb⟩


set_option maxRecDepth 10000 in
set_option maxHeartbeats 2000000 in
theorem rsum_any (s : ByteArray) (hs : s.size ≤ 1000000) (A : Option Addr) (len cap : Nat) (l : List Int) (hl : l.length = len) (hlen : len ≤ 1000000) (w : World) (hrd : Reads w w.heap.size 1 A len (iv l)) :
    Calls Try.prog 65 #[.string s, .slice A len cap] w fun e W' => e = .returned (.int .u64 ((H.sum s.data.toList (wv l)).toNat : Int)) ∧ Below w.heap.size w W' := by
  have HL := Lib.hid hl
  clear hl
  have hcv := fun w s => run_bytes_of_string (P := Try.prog) w 9 22 5 s Try.underlying9 Try.underlying22 Try.underlying5
  go_enter Try.func65, Try.ntmps65
  go_wp2_with fail
  clear hcv
  generalize grownCap w s.size 0 5 = gc
  refine (words_any _ _ _ s.data.toList (H.str_len s) hs (w.heap.size + 1) _ (by simp) (reads_bytesRow _ _ _ _ _).drew).mono ?_
  rintro e w1 ⟨v, rfl, hown, hb⟩
  have hb1 : Below w.heap.size w w1 := (((Below.refl w.heap.size w).alloc (Nat.le_refl _) _).drew).trans (hb.mono (by simp))
  obtain ⟨A1, c1, rfl, hc1, hr1, _⟩ := own_reads hown
  have hnw : H.nw s.data.toList ≤ 130000 := by unfold H.nw; rw [H.str_len]; omega
  have hl1 := hrd.below hb1
  obtain ⟨ws, hws⟩ : ∃ ws, H.words s.data.toList = ws := ⟨_, rfl⟩
  obtain ⟨nws, hnws⟩ : ∃ nws, H.nw s.data.toList = nws := ⟨_, rfl⟩
  have HWL := Lib.hid (show ws.length = nws by rw [← hws, H.words_len, hnws])
  rw [hws] at hr1
  rw [hnws] at hr1 hnw ⊢
  have HWS := Lib.hid hws
  clear hown hb hws hnws hrd
  go_wp2
  go_loop [5, 7] (fun v i => ∃ k : Nat, k ≤ nws ∧ i = .int .i64 (k : Int) ∧ v = .int .u64 ((H.absorb 0 (ws.take k)).toNat : Int)) (fun _ i => nws - (intOf i).toNat)
  case atStart => exact ⟨0, Nat.zero_le _, rfl, rfl⟩
  case round =>
    obtain ⟨k, hk, rfl, rfl⟩ := hrel
    by_cases hlt : k < nws
    · obtain ⟨ad, u, rfl, _, hu, hcell⟩ := hr1.at_ hlt
      obtain ⟨x, hx, rfl⟩ := uvs_at hu
      have HX := Lib.hid hx
      clear hu hx
      go_wp2_with (go_at_call 73; refine (rmix_any _ _ _).mono ?_; rintro e w' ⟨rfl, rfl⟩)
      go_round
      case rel => exact ⟨k + 1, by omega, by go_num, by rw [List.take_add_one, HX.out]; simp [H.absorb_snoc]⟩
      case measure => simp [intOf]; omega
    · have hkn := Lib.hid (show ws.take k = ws from List.take_of_length_le (by rw [HWL.out]; omega))
      go_wp2_with (go_at_call 73; refine (rmix_nat _ _ (by omega) _).mono ?_; rintro e w' ⟨rfl, rfl⟩)
      obtain ⟨st, hst⟩ : ∃ st, H.mix (H.mix (H.absorb 0 (ws.take k)) (UInt64.ofNat s.size)) (UInt64.ofNat len) = st := ⟨_, rfl⟩
      rw [hst]
      have HST := Lib.hid hst
      clear hst
      go_loop [5, 8] (fun v i => ∃ k : Nat, k ≤ len ∧ i = .int .i64 (k : Int) ∧ v = .int .u64 ((H.absorb st ((wv l).take k)).toNat : Int)) (fun _ i => len - (intOf i).toNat)
      case atStart => exact ⟨0, Nat.zero_le _, rfl, rfl⟩
      case round =>
        obtain ⟨k2, hk2, rfl, rfl⟩ := hrel
        by_cases hlt2 : k2 < len
        · obtain ⟨ad, u, rfl, _, hu, hcell⟩ := hl1.at_ hlt2
          obtain ⟨x, hx, rfl⟩ := iv_at hu
          have HX := Lib.hid hx
          clear hu hx
          go_wp2_with (go_at_call 73; refine (rmix_wrap _ _ _).mono ?_; rintro e w' ⟨rfl, rfl⟩)
          go_round
          case rel => exact ⟨k2 + 1, by omega, by go_num, by rw [wv_take HX.out, H.absorb_snoc]⟩
          case measure => simp [intOf]; omega
        · have hkl := Lib.hid (show (wv l).take k2 = wv l from List.take_of_length_le (by rw [wv_len, HL.out]; omega))
          go_wp2_with (go_at_call 73; refine (rmix_zero _ _).mono ?_; rintro e w' ⟨rfl, rfl⟩)
          go_ret
          refine ⟨?_, hb1⟩
          show Ending.returned (.int .u64 ((H.mix (H.absorb st ((wv l).take k2)) 0).toNat : Int)) = _
          rw [hkl.out, ← HST.out, hkn.out, ← HWS.out, H.sum, wv_len, HL.out, H.str_len]
end Go.Proofs.Ytfanhbemmjcomaa
