/- The reader: Uint, Int. -/
import Derived.Test.YtfanhbemmjcomaaWireIn
namespace Go.Proofs.Ytfanhbemmjcomaa
open Go.RowKit
set_option linter.unusedVariables false

theorem and_not_form (c : UInt8) : bits BinOp.andNot IntKind.u8 (c.toNat : Int) 128 = ((c.toNat % 128 : Nat) : Int) := by
  have := u8_andNot_nat c.toNat 128 c.toNat_lt (by omega)
  rw [show ((128 : Nat) : Int) = 128 from rfl] at this
  rw [this]
  have h3 : ∀ k, k < 256 → k &&& (255 - 128) = k % 128 := by decide +kernel
  rw [h3 _ c.toNat_lt]
theorem acc_form (n : UInt64) (d i : Nat) (hd : d < 128) (hi : i ≤ 9) : bits BinOp.or IntKind.u64 (n.toNat : Int) (IntKind.u64.wrap (IntKind.u64.wrap (d : Int) * 2 ^ (7 * i))) = ((n ||| UInt64.ofNat d <<< UInt64.ofNat (7 * i)).toNat : Int) := by
  have hn := n.toNat_lt
  have e1 : IntKind.u64.wrap ((d : Int) * 2 ^ (7 * i)) = (((UInt64.ofNat d <<< UInt64.ofNat (7 * i)).toNat : Nat) : Int) := by
    rw [IntKind.wrap_u64, UInt64.toNat_shiftLeft, Nat.shiftLeft_eq, UInt64.toNat_ofNat_of_lt' (show d < UInt64.size by show _ < 18446744073709551616; omega), UInt64.toNat_ofNat_of_lt' (show 7 * i < UInt64.size by show _ < 18446744073709551616; omega), Nat.mod_eq_of_lt (show 7 * i < 64 by omega)]
    rw [Int.natCast_emod, Int.natCast_mul, Int.natCast_pow]
    rfl
  rw [show IntKind.u64.wrap (d : Int) = (d : Int) from by rw [IntKind.wrap_u64]; omega]
  have hm := (UInt64.ofNat d <<< UInt64.ofNat (7 * i)).toNat_lt
  rw [e1, UInt64.toNat_or]
  exact u64_or_nat _ _ (by omega) (by omega)

set_option maxRecDepth 10000 in
set_option maxHeartbeats 2000000 in
theorem inUint_any (g : Nat) (s : V.St) (w : World) (h : InAt 113 w g s) :
    Calls Try.prog 58 #[.pointer (some ⟨g, 0, none⟩)] w fun e w' => e = .returned (.int .u64 ((V.rdUint s).1.toNat : Int)) ∧ InAt 113 w' g (V.rdUint s).2 ∧ w.grownBy w' (some g) := by
  obtain ⟨R, hR⟩ : ∃ R, V.rdUint s = R := ⟨_, rfl⟩
  rw [hR]
  have HR := Lib.hid hR
  clear hR
  go_enter Try.func58, Try.ntmps58
  go_wp2
  go_loopw [3, 4] (fun nv iv wr => ∃ (i : Nat) (x : Int) (r : V.St), i ≤ 10 ∧ iv = .int .i64 (i : Int) ∧ nv = .int .u64 x ∧ InAt 113 wr g r ∧ w.grownBy wr (some g) ∧
      Hid ((r.2 = 0 ∧ i ≤ 9 ∧ ∃ n : UInt64, x = (n.toNat : Int) ∧ V.rdF i n r.1 = R) ∨ (r.2 ≠ 0 ∧ ((0 : UInt64), r) = R)))
    (fun _ iv _ => 20 - (intOf iv).toNat)
  case atStart =>
    refine ⟨0, 0, s, by omega, rfl, rfl, h, only_refl _ _, ?_⟩
    show _ ∨ _
    rw [← HR.out]
    unfold V.rdUint
    by_cases he : s.2 = 0
    · exact .inl ⟨he, by omega, 0, rfl, by rw [if_pos he]⟩
    · exact .inr ⟨he, by rw [if_neg he]⟩
  case round =>
    obtain ⟨i, x, ⟨bs, e⟩, hi, rfl, rfl, hin, hgr, hst⟩ := hrel
    have hin' := hin
    obtain ⟨A, c, h1, h2, h3, h4⟩ := hin'
    have hc1 := h1.cell1
    have hf1 := h1.frozen1
    clear h1 h2 h3 h4
    rcases hst.out with ⟨he, hi9, n, rfl, hrd⟩ | ⟨he, hrd⟩
    · obtain rfl : e = 0 := he
      have hnx := next_any g _ wr hin
      cases bs with
      | nil =>
        have hrd : ((0 : UInt64), (([] : List UInt8), (7 : Int))) = R := hrd
        go_wp2_with fail
        refine hnx.mono ?_
        rintro e1 w1 ⟨rfl, hin1, hg1⟩
        have hin1 : InAt 113 w1 g ([], 7) := hin1
        have hin1' := hin1
        obtain ⟨A1, c1, k1, k2, k3, k4⟩ := hin1'
        have kc1 := k1.cell1
        have kf1 := k1.frozen1
        clear k1 k2 k3 k4 hnx
        rw [show ((V.next (([] : List UInt8), (0 : Int))).1.toNat : Int) = 0 from rfl]
        go_wp2_with fail
        go_roundw
        case rel => exact ⟨i + 1, _, ([], 7), by omega, by go_num, rfl, hin1, only_trans hgr hg1, .inr ⟨by decide, hrd⟩⟩
        case measure => simp [intOf]; omega
      | cons b bs =>
        have hb := b.toNat_lt
        have hacf := acc_form n (b.toNat % 128) i (Nat.mod_lt _ (by omega)) hi9
        have hanf := and_not_form b
        obtain ⟨d, hd⟩ : ∃ d, b.toNat % 128 = d := ⟨_, rfl⟩
        unfold V.rdF at hrd
        rw [hd] at hacf hanf hrd
        obtain ⟨m, hm⟩ : ∃ m : UInt64, n ||| UInt64.ofNat d <<< UInt64.ofNat (7 * i) = m := ⟨_, rfl⟩
        rw [hm] at hacf hrd
        clear hd hm
        by_cases hbad : (i = 9 ∧ 1 < b.toNat) ∨ (0 < i ∧ b.toNat = 0)
        · rw [if_pos hbad] at hrd
          by_cases q9 : i = 9
          · have h9 : 9 ≤ i := by omega
            have hq : ((i : Int) == 9) = true := by rw [beq_iff_eq]; omega
            clear hst q9
            by_cases hb1 : 1 < b.toNat
            · clear hbad
              go_wp2_with fail
              refine hnx.mono ?_
              rintro e1 w1 ⟨rfl, hin1, hg1⟩
              have hin1 : InAt 113 w1 g (bs, 0) := hin1
              obtain ⟨A1, c1, k1, k2, k3, k4⟩ := id hin1
              have kc1 := k1.cell1
              have kf1 := k1.frozen1
              clear k1 k2 k3 k4 hnx
              rw [show ((V.next (b :: bs, (0 : Int))).1.toNat : Int) = (b.toNat : Int) from rfl]
              go_wp2_with fail
              refine (inFail_any g (bs, 0) 8 _ hin1).mono ?_
              rintro e2 w2 ⟨rfl, hin2, hg2⟩
              have hin2 : InAt 113 w2 g (bs, 8) := hin2
              obtain ⟨A2, c2, k1, k2, k3, k4⟩ := id hin2
              have kc2 := k1.cell1
              have kf2 := k1.frozen1
              clear k1 k2 k3 k4 kc1 kf1
              go_wp2_with fail
              all_goals
                go_roundw
                case rel => exact ⟨i + 1, _, (bs, 8), by omega, by go_num, rfl, hin2, only_trans hgr (only_trans hg1 hg2), .inr ⟨by show (8 : Int) ≠ 0; decide, hrd⟩⟩
                case measure => simp [intOf]; try omega
            · have hb0 : b.toNat < 1 := by omega
              have hz : ((b.toNat : Int) == 0) = true := by rw [beq_iff_eq]; omega
              clear hbad
              go_wp2_with fail
              refine hnx.mono ?_
              rintro e1 w1 ⟨rfl, hin1, hg1⟩
              have hin1 : InAt 113 w1 g (bs, 0) := hin1
              obtain ⟨A1, c1, k1, k2, k3, k4⟩ := id hin1
              have kc1 := k1.cell1
              have kf1 := k1.frozen1
              clear k1 k2 k3 k4 hnx
              rw [show ((V.next (b :: bs, (0 : Int))).1.toNat : Int) = (b.toNat : Int) from rfl]
              go_wp2_with fail
              refine (inFail_any g (bs, 0) 8 _ hin1).mono ?_
              rintro e2 w2 ⟨rfl, hin2, hg2⟩
              have hin2 : InAt 113 w2 g (bs, 8) := hin2
              obtain ⟨A2, c2, k1, k2, k3, k4⟩ := id hin2
              have kc2 := k1.cell1
              have kf2 := k1.frozen1
              clear k1 k2 k3 k4 kc1 kf1
              go_wp2_with fail
              all_goals
                go_roundw
                case rel => exact ⟨i + 1, _, (bs, 8), by omega, by go_num, rfl, hin2, only_trans hgr (only_trans hg1 hg2), .inr ⟨by show (8 : Int) ≠ 0; decide, hrd⟩⟩
                case measure => simp [intOf]; try omega
          · have hb0 : b.toNat < 1 := by omega
            have hi0 : 0 < i := by omega
            have hq : ((i : Int) == 9) = false := by rw [beq_eq_false_iff_ne]; omega
            have hz : ((b.toNat : Int) == 0) = true := by rw [beq_iff_eq]; omega
            clear hbad hst
            go_wp2_with fail
            refine hnx.mono ?_
            rintro e1 w1 ⟨rfl, hin1, hg1⟩
            have hin1 : InAt 113 w1 g (bs, 0) := hin1
            obtain ⟨A1, c1, k1, k2, k3, k4⟩ := id hin1
            have kc1 := k1.cell1
            have kf1 := k1.frozen1
            clear k1 k2 k3 k4 hnx
            rw [show ((V.next (b :: bs, (0 : Int))).1.toNat : Int) = (b.toNat : Int) from rfl]
            go_wp2_with fail
            refine (inFail_any g (bs, 0) 8 _ hin1).mono ?_
            rintro e2 w2 ⟨rfl, hin2, hg2⟩
            have hin2 : InAt 113 w2 g (bs, 8) := hin2
            obtain ⟨A2, c2, k1, k2, k3, k4⟩ := id hin2
            have kc2 := k1.cell1
            have kf2 := k1.frozen1
            clear k1 k2 k3 k4 kc1 kf1
            go_wp2_with fail
            all_goals
              go_roundw
              case rel => exact ⟨i + 1, _, (bs, 8), by omega, by go_num, rfl, hin2, only_trans hgr (only_trans hg1 hg2), .inr ⟨by show (8 : Int) ≠ 0; decide, hrd⟩⟩
              case measure => simp [intOf]; try omega
        · rw [if_neg hbad] at hrd
          by_cases hs : b.toNat < 128
          · rw [if_pos hs] at hrd
            by_cases q0 : i = 0
            · have h0 : i < 1 := by omega
              have hq : ((i : Int) == 9) = false := by rw [beq_eq_false_iff_ne]; omega
              clear hbad hst q0
              go_wp2_with fail
              refine hnx.mono ?_
              rintro e1 w1 ⟨rfl, hin1, hg1⟩
              have hin1 : InAt 113 w1 g (bs, 0) := hin1
              obtain ⟨A1, c1, k1, k2, k3, k4⟩ := id hin1
              have kc1 := k1.cell1
              have kf1 := k1.frozen1
              clear k1 k2 k3 k4 hnx
              rw [show ((V.next (b :: bs, (0 : Int))).1.toNat : Int) = (b.toNat : Int) from rfl]
              go_wp2_with fail
              go_ret
              exact ⟨by rw [← hrd]; rfl, by rw [← hrd]; exact hin1, only_trans hgr hg1⟩
            · have hb0 : b.toNat ≠ 0 := by omega
              have hz : ((b.toNat : Int) == 0) = false := by rw [beq_eq_false_iff_ne]; omega
              by_cases q9 : i = 9
              · have h9 : 9 ≤ i := by omega
                have hq : ((i : Int) == 9) = true := by rw [beq_iff_eq]; omega
                have hb1 : b.toNat < 2 := by omega
                clear hbad hst q9
                go_wp2_with fail
                refine hnx.mono ?_
                rintro e1 w1 ⟨rfl, hin1, hg1⟩
                have hin1 : InAt 113 w1 g (bs, 0) := hin1
                obtain ⟨A1, c1, k1, k2, k3, k4⟩ := id hin1
                have kc1 := k1.cell1
                have kf1 := k1.frozen1
                clear k1 k2 k3 k4 hnx
                rw [show ((V.next (b :: bs, (0 : Int))).1.toNat : Int) = (b.toNat : Int) from rfl]
                go_wp2_with fail
                go_ret
                exact ⟨by rw [← hrd]; rfl, by rw [← hrd]; exact hin1, only_trans hgr hg1⟩
              · have hq : ((i : Int) == 9) = false := by rw [beq_eq_false_iff_ne]; omega
                clear hbad hst
                go_wp2_with fail
                refine hnx.mono ?_
                rintro e1 w1 ⟨rfl, hin1, hg1⟩
                have hin1 : InAt 113 w1 g (bs, 0) := hin1
                obtain ⟨A1, c1, k1, k2, k3, k4⟩ := id hin1
                have kc1 := k1.cell1
                have kf1 := k1.frozen1
                clear k1 k2 k3 k4 hnx
                rw [show ((V.next (b :: bs, (0 : Int))).1.toNat : Int) = (b.toNat : Int) from rfl]
                go_wp2_with fail
                go_ret
                exact ⟨by rw [← hrd]; rfl, by rw [← hrd]; exact hin1, only_trans hgr hg1⟩
          · rw [if_neg hs] at hrd
            have hi8 : i < 9 := by omega
            by_cases q0 : i = 0
            · have h0 : i < 1 := by omega
              have hq : ((i : Int) == 9) = false := by rw [beq_eq_false_iff_ne]; omega
              clear hbad hst q0
              go_wp2_with fail
              refine hnx.mono ?_
              rintro e1 w1 ⟨rfl, hin1, hg1⟩
              have hin1 : InAt 113 w1 g (bs, 0) := hin1
              obtain ⟨A1, c1, k1, k2, k3, k4⟩ := id hin1
              have kc1 := k1.cell1
              have kf1 := k1.frozen1
              clear k1 k2 k3 k4 hnx
              rw [show ((V.next (b :: bs, (0 : Int))).1.toNat : Int) = (b.toNat : Int) from rfl]
              go_wp2_with fail
              go_roundw
              case rel => exact ⟨i + 1, _, (bs, 0), by omega, by go_num, rfl, hin1, only_trans hgr hg1, .inl ⟨rfl, by omega, m, rfl, hrd⟩⟩
              case measure => simp [intOf]; try omega
            · have hb0 : b.toNat ≠ 0 := by omega
              have hz : ((b.toNat : Int) == 0) = false := by rw [beq_eq_false_iff_ne]; omega
              have hq : ((i : Int) == 9) = false := by rw [beq_eq_false_iff_ne]; omega
              clear hbad hst
              go_wp2_with fail
              refine hnx.mono ?_
              rintro e1 w1 ⟨rfl, hin1, hg1⟩
              have hin1 : InAt 113 w1 g (bs, 0) := hin1
              obtain ⟨A1, c1, k1, k2, k3, k4⟩ := id hin1
              have kc1 := k1.cell1
              have kf1 := k1.frozen1
              clear k1 k2 k3 k4 hnx
              rw [show ((V.next (b :: bs, (0 : Int))).1.toNat : Int) = (b.toNat : Int) from rfl]
              go_wp2_with fail
              go_roundw
              case rel => exact ⟨i + 1, _, (bs, 0), by omega, by go_num, rfl, hin1, only_trans hgr hg1, .inl ⟨rfl, by omega, m, rfl, hrd⟩⟩
              case measure => simp [intOf]; try omega
    · go_wp2
      go_ret
      have he : e ≠ 0 := he
      exact ⟨by rw [← hrd]; rfl, by rw [← hrd]; exact hin, hgr⟩
end Go.Proofs.Ytfanhbemmjcomaa
