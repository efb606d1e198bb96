/- store.Open of a log that was made well, cut anywhere. -/
import Derived.Test.YtfanhbemmjcomaaStApply
import Derived.Test.YtfanhbemmjcomaaStIs
import Derived.WalkMore
import Derived.Deep.RegionLaw
namespace Go.Proofs.Ytfanhbemmjcomaa
open Go.RowKit
set_option linter.unusedVariables false

/-- What Open keeps of a log's first m bytes: the records that are whole. -/
def S.Cut (L : List S.R) (m k : Nat) : Prop := k ≤ L.length ∧ (S.log (L.take k)).length ≤ m ∧ (k < L.length → m < (S.log (L.take (k + 1))).length)
theorem S.cut_of {L L1 L2 : List S.R} {m j : Nat} (hL : L = L1 ++ L2) (hj : (S.log L1).length + j = m) (hs : ∀ r L3, L2 = r :: L3 → j < (S.frame (S.payload r)).length) : S.Cut L m L1.length := by
  subst hL
  refine ⟨by simp, by rw [List.take_left]; omega, fun h => ?_⟩
  cases L2 with
  | nil => simp at h
  | cons r L3 =>
    have := hs r L3 rfl
    rw [show L1 ++ r :: L3 = (L1 ++ [r]) ++ L3 by simp, show L1.length + 1 = (L1 ++ [r]).length by simp, List.take_left, S.log_snoc, List.length_append]
    omega
/-- A slice of a slice of bytes. -/
theorem cut_both {A : Option Addr} {n c B : Nat} {xs : List Value} {w0 : World} (hr : Reads w0 B 1 A n xs) (hc : n ≤ c) (i j : Nat) (x y : Int) (hx : x = (i : Int)) (hy : y = (j : Int)) (hij : i ≤ j) (hj : j ≤ n) :
    ∃ A', (∀ w : World, (Instr.slice 22 (.slice A n c) (some (.int .i64 x)) (some (.int .i64 y)) none).run Try.prog w = .ok (.slice A' (j - i) (c - i)) w) ∧ Reads w0 B 1 A' (j - i) ((xs.drop i).take (j - i)) := by
  subst hx hy
  refine ⟨if c = i then A else A.map (·.add (i * 1)), fun w => ?_, ?_⟩
  · rw [run_slice_lh (P := Try.prog) (w := w) 22 A n c (by kernel_rfl) .i64 .i64 (i : Int) (j : Int) (by omega) (by omega) (by omega)]
    have : ((sizeOf (Try.prog.elem 22)).run Try.prog w) = .ok 1 w := by kernel_rfl
    rw [this]
    rfl
  · have := (hr.cut (k := i) (cap := c) (by omega) hc).take (k := j - i) (by omega)
    rwa [Nat.mul_one] at this ⊢
theorem cut_low {A : Option Addr} {n c B : Nat} {xs : List Value} {w0 : World} (hr : Reads w0 B 1 A n xs) (hc : n ≤ c) (i : Nat) (x : Int) (hx : x = (i : Int)) (hi : i ≤ n) :
    ∃ A', (∀ w : World, (Instr.slice 22 (.slice A n c) (some (.int .i64 x)) none none).run Try.prog w = .ok (.slice A' (n - i) (c - i)) w) ∧ Reads w0 B 1 A' (n - i) (xs.drop i) := by
  subst hx
  refine ⟨if c = i then A else A.map (·.add (i * 1)), fun w => ?_, ?_⟩
  · rw [run_slice_l (P := Try.prog) (w := w) 22 A n c (by kernel_rfl) .i64 (i : Int) (by omega) (by omega)]
    have : ((sizeOf (Try.prog.elem 22)).run Try.prog w) = .ok 1 w := by kernel_rfl
    rw [this]
    rfl
  · have := hr.cut (k := i) (cap := c) hi hc
    rwa [Nat.mul_one] at this ⊢
/-- What lies before the cut. -/
theorem take_app {α : Type} {P X : List α} {j : Nat} (h : P.length ≤ j) : (P ++ X).take j = P ++ X.take (j - P.length) := by
  rw [List.take_append, List.take_of_length_le h]
def restLen : Value → Nat
  | .slice _ n _ => n
  | _ => 0
theorem S.Good.small {L : List S.R} (h : S.Good L) : S.Small L := fun b hb => by
  obtain ⟨L1, L2, e⟩ := List.append_of_mem hb
  exact (h L1 _ L2 e).2

set_option maxRecDepth 10000 in
set_option maxHeartbeats 8000000 in
theorem open_any (A : Option Addr) (m cap : Nat) (L : List S.R) (hgood : S.Good L) (hfew : L.length ≤ 200) (hm : m ≤ (S.log L).length) (hmc : m ≤ cap) (w : World) (hr : Reads w w.heap.size 1 A m (bv ((S.log L).take m))) :
    Calls Try.prog 34 #[.slice A m cap] w fun e w' => ∃ (g bo bn : Nat) (v : Value) (k : Nat), e = .returned (.tuple #[.pointer (some ⟨g, 0, none⟩), .int .i64 0]) ∧ StAt w' w.heap.size g bo bn v (L.take k) (S.log (L.take k)).length ∧ S.Cut L m k ∧ Below w.heap.size w w' := by
  have hll : (S.log L).length ≤ 13120000 := by have := S.log_len hgood.small; omega
  have hmm : m ≤ 13120000 := by omega
  have HG := Lib.hid hgood
  have HM := Lib.hid hm
  have hr0 := hr
  clear hgood hm hll
  go_enter Try.func34, Try.ntmps34
  go_wp2_with fail
  go_step3
  go_wp2_with fail
  refine (new_any w).mono ?_
  rintro e w1 ⟨g, bo, bn, rfl, hs1, hb1⟩
  go_wp2_with fail
  go_step3
  go_wp2_with fail
  go_loopw [5] (fun rest wr => ∃ (L1 L2 : List S.R) (v : Value) (Ar : Option Addr) (j cr : Nat), Hid (L = L1 ++ L2) ∧ rest = .slice Ar j cr ∧ j ≤ cr ∧ Hid ((S.log L1).length + j = m) ∧ Hid (j ≤ (S.log L2).length) ∧ Reads w w.heap.size 1 Ar j (bv ((S.log L2).take j)) ∧ StAt wr w.heap.size g bo bn v L1 0 ∧ Below w.heap.size w wr) (fun rest _ => restLen rest)
  case atStart => exact ⟨[], L, _, A, m, cap, Lib.hid rfl, rfl, hmc, Lib.hid (by simp [S.log_nil]), Lib.hid HM.out, hr0, hs1, hb1⟩
  case round =>
    obtain ⟨L1, L2, v, Ar, j, cr, hL, rfl, hjc, hj, hj2, hrd, hs, hB⟩ := hrel
    clear hs1 hb1 hr hr0
    have hjm : j ≤ m := by have := hj.out; omega
    by_cases h0 : j = 0
    · have hj0 : (j : Int) ≤ 0 := by omega
      go_wp2_with fail
      refine (sync_any w.heap.size g bo bn 0 v L1 _ hs).mono ?_
      rintro e w3 ⟨rfl, hs3, ht3⟩
      have hB3 := hB.trans (hs.turn_below ht3 (Nat.le_refl _))
      go_wp2_with fail
      rw [Exit.noGoto_ret]
      go_ret2
      refine ⟨g, bo, bn, v, L1.length, rfl, ?_, S.cut_of hL.out hj.out (fun r L3 e => by have := S.frame_pos (S.payload r); omega), hB3⟩
      rw [hL.out, List.take_left]; exact hs3
    · cases L2 with
      | nil => exact absurd hj2.out (by rw [S.log_nil]; simp; omega)
      | cons r L3 =>
        have hj0 : (0 : Int) < (j : Int) := by omega
        have hfit : S.fits L1 r := HG.out L1 r L3 hL.out
        have hL1 : L1.length < 200 := by have := congrArg List.length hL.out; simp at this; omega
        obtain ⟨pl, hpl⟩ : ∃ p, S.payload r = p := ⟨_, rfl⟩
        obtain ⟨np, hnp⟩ : ∃ k, pl.length = k := ⟨_, rfl⟩
        have hnp2 : np ≤ 65600 := by
          have := S.payload_len r
          rw [hpl, hnp] at this
          cases r with
          | obj b => have := hfit.2; simp only at *; omega
          | bind n k => simp only at this; omega
        obtain ⟨u, hu⟩ : ∃ u, UInt64.ofNat np = u := ⟨_, rfl⟩
        have hun : u.toNat = np := by rw [← hu]; exact UInt64.toNat_ofNat_of_lt' (by show _ < 18446744073709551616; omega)
        obtain ⟨E, hE⟩ : ∃ E, V.enc u = E := ⟨_, rfl⟩
        obtain ⟨ke, hke⟩ : ∃ k, E.length = k := ⟨_, rfl⟩
        have hke2 : 1 ≤ ke ∧ ke ≤ 10 := by rw [← hke, ← hE]; exact V.enc_len u
        obtain ⟨C, hC⟩ : ∃ C, S.le8 (S.crc pl) = C := ⟨_, rfl⟩
        have hC8 : C.length = 8 := by rw [← hC]; exact S.le8_len _
        obtain ⟨X, hX⟩ : ∃ X, S.log L3 = X := ⟨_, rfl⟩
        have hfr : S.frame (S.payload r) = E ++ C ++ pl := by rw [hpl]; unfold S.frame; rw [hnp, hu, hE, hC]
        have hfl : (S.frame (S.payload r)).length = ke + 8 + np := by rw [hfr, List.length_append, List.length_append, hke, hC8, hnp]
        have hlg : S.log (r :: L3) = E ++ C ++ pl ++ X := by rw [S.log_cons, hfr, hX]
        rw [hlg] at hrd
        obtain ⟨bs, hbs⟩ : ∃ bs, (E ++ C ++ pl ++ X).take j = bs := ⟨_, rfl⟩
        rw [hbs] at hrd
        have hbl : bs.length = j := by have := hrd.1; simpa [bv] using this
        have hrw := hrd.later hB
        have HBL := Lib.hid hbl
        have HFIT := Lib.hid hfit
        have HPL := Lib.hid hpl
        have HNP := Lib.hid hnp
        have HFL := Lib.hid hfl
        have HC := Lib.hid hC
        have HX := Lib.hid hX
        by_cases hcut : j < ke
        · have hrc : V.rdUint (bs, 0) = (0, ([], 7)) := by
            have e : bs = (V.enc u).take j := by rw [← hbs, List.append_assoc, List.append_assoc, List.take_append_of_le_length (by omega), hE]
            rw [e]; exact V.rd_cut u j (by rw [hE, hke]; exact hcut)
          have HRC := Lib.hid hrc
          clear hrc hbs hlg hfr hE hke hu hun hC hC8 hX hfit hpl hnp hfl
          go_wp2_with fail
          refine (length_cut Ar j cr bs HBL.out (by omega) HRC.out wr hrw).mono ?_
          rintro e w2 ⟨rfl, hd2⟩
          have hs2 := hs.later hd2
          have hB2 := blater hB (Nat.le_refl _) hd2
          go_wp2_with fail
          refine (is_same 7 _).mono ?_
          rintro e w3 ⟨rfl, rfl⟩
          go_wp2_with fail
          refine (sync_any w.heap.size g bo bn 0 v L1 _ hs2).mono ?_
          rintro e w3 ⟨rfl, hs3, ht3⟩
          have hB3 := hB2.trans (hs2.turn_below ht3 (Nat.le_refl _))
          go_wp2_with fail
          rw [Exit.noGoto_ret]
          go_ret2
          refine ⟨g, bo, bn, v, L1.length, rfl, ?_, S.cut_of hL.out hj.out (fun r' L' e => by injection e with e1 e2; subst e1; rw [HFL.out]; omega), hB3⟩
          rw [hL.out, List.take_left]; exact hs3
        · have hbe : bs = V.enc u ++ (C ++ pl ++ X).take (j - ke) := by
            rw [← hbs, List.append_assoc, List.append_assoc, take_app (by omega), hke, hE, List.append_assoc]
          have hkeu : (V.enc u).length = ke := by rw [hE, hke]
          have HBE := Lib.hid hbe
          have HKEU := Lib.hid hkeu
          have HUN := Lib.hid hun
          have HBS := Lib.hid hbs
          have HKE := Lib.hid hke
          have HC8 := Lib.hid hC8
          clear hbe hkeu hbs hlg hfr hE hke hu hC hC8 hX hfit hpl hnp hfl
          go_wp2_with fail
          refine (length_ok Ar j cr bs _ u ke HBL.out (by omega) HBE.out (by rw [HUN.out]; omega) HKEU.out wr hrw).mono ?_
          rintro e w2 ⟨rfl, hd2⟩
          rw [HUN.out]
          have hs2 := hs.later hd2
          have hB2 := blater hB (Nat.le_refl _) hd2
          have hnn := run_eql_nil_nil (P := Try.prog) w2 89 (by kernel_rfl)
          go_wp2_with fail
          refine (is_nil 7 _).mono ?_
          rintro e w3 ⟨rfl, rfl⟩
          clear hun
          by_cases hend : j < ke + 8 + np
          · have hend2 : (j : Int) < (ke : Int) + 8 + (np : Int) := by omega
            go_wp2_with fail
            refine (sync_any w.heap.size g bo bn 0 v L1 _ hs2).mono ?_
            rintro e w3 ⟨rfl, hs3, ht3⟩
            have hB3 := hB2.trans (hs2.turn_below ht3 (Nat.le_refl _))
            go_wp2_with fail
            rw [Exit.noGoto_ret]
            go_ret2
            refine ⟨g, bo, bn, v, L1.length, rfl, ?_, S.cut_of hL.out hj.out (fun r' L' e => by injection e with e1 e2; subst e1; rw [HFL.out]; omega), hB3⟩
            rw [hL.out, List.take_left]; exact hs3
          · have hend2 : ¬ (j : Int) < (ke : Int) + 8 + (np : Int) := by omega
            obtain ⟨Y, hY⟩ : ∃ Y, X.take (j - (ke + 8 + np)) = Y := ⟨_, rfl⟩
            have hsp : bs = E ++ C ++ pl ++ Y := by
              have hPl : (E ++ C ++ pl).length = ke + 8 + np := by rw [List.length_append, List.length_append, HKE.out, HC8.out, HNP.out]
              rw [← HBS.out, take_app (by omega), hPl, hY]
            have q1 : ((bv bs).drop (ke + 8)).take np = bv pl := by
              rw [hsp]
              unfold bv
              rw [← List.map_drop, ← List.map_take, List.append_assoc, List.drop_left' (by rw [List.length_append, HKE.out, HC8.out]), List.take_left' HNP.out]
            have q2 : ((bv bs).drop ke).take 8 = bv C := by
              rw [hsp]
              unfold bv
              rw [← List.map_drop, ← List.map_take, List.append_assoc, List.append_assoc, List.drop_left' HKE.out, List.take_left' HC8.out]
            have q3 : (bv bs).drop (ke + 8 + np) = bv Y := by
              rw [hsp]
              unfold bv
              rw [← List.map_drop, List.drop_left' (by rw [List.length_append, List.length_append, HKE.out, HC8.out, HNP.out])]
            obtain ⟨A1, f1, r1⟩ := cut_both hrd hjc (ke + 8) (ke + 8 + np) ((ke : Int) + 8) ((ke : Int) + 8 + (np : Int)) (by omega) (by omega) (by omega) (by omega)
            obtain ⟨A2, f2, r2⟩ := cut_both hrd hjc ke (ke + 8) (ke : Int) ((ke : Int) + 8) rfl (by omega) (by omega) (by omega)
            obtain ⟨A3, f3, r3⟩ := cut_low hrd hjc (ke + 8 + np) ((ke : Int) + 8 + (np : Int)) (by omega) (by omega)
            rw [show ke + 8 + np - (ke + 8) = np by omega] at f1 r1
            rw [show ke + 8 - ke = 8 by omega] at f2 r2
            rw [q1] at r1
            rw [q2] at r2
            rw [q3] at r3
            obtain ⟨c1, hc1⟩ : ∃ c, cr - (ke + 8) = c := ⟨_, rfl⟩
            obtain ⟨c2, hc2⟩ : ∃ c, cr - ke = c := ⟨_, rfl⟩
            obtain ⟨c3, hc3⟩ : ∃ c, cr - (ke + 8 + np) = c := ⟨_, rfl⟩
            obtain ⟨j3, hj3⟩ : ∃ c, j - (ke + 8 + np) = c := ⟨_, rfl⟩
            rw [hc1] at f1
            rw [hc2] at f2
            rw [hc3, hj3] at f3
            rw [hj3] at r3 hY
            have HY := Lib.hid hY
            have hB2d : Below w.heap.size w w3.drew := Below.drew hB2
            have hs2d := hs2.later (Below.drew (Below.refl w3.heap.size w3))
            clear hY hsp q1 q2 q3 hrw hs hB hd2 hnn hbl
            go_wp2_with fail
            have hnp1 : np ≤ 1000000 := by omega
            have hw1 : IntKind.i64.wrap ((ke : Int) + 8) = (ke : Int) + 8 := by rw [IntKind.wrap_i64]; omega
            go_region_law (first
              | (go_simp; go_at_call 48; refine (checksum_any A1 np c1 pl HNP.out hnp1 _ (r1.later hB2d)).mono ?_; rintro e w4 ⟨vc, rfl, hown4, hd4⟩; obtain ⟨A4, c4, rfl, hc4, _, hown4, hr4⟩ := own_k hown4; rw [HC.out] at hr4; have hB4 := blater hB2d (Nat.le_refl _) hd4; have hs4 := hs2d.later hd4)
              | (go_simp; go_at_call 36; refine (equal_b true A4 A2 8 c4 8 c2 C C HC8.out HC8.out (by simp) (by decide) (by decide) _ hr4 (r2.later hB4)).mono ?_; rintro e w5 ⟨rfl, hd5⟩; have hB5 := blater hB4 (Nat.le_refl _) hd5; have hs5 := hs4.later hd5))
            all_goals
              clear hw1
              clear hr4 hown4 hd4 hs4 hd5 hB4 hs2d hB2d hs2 hB2
              go_wp2_with fail
              refine (apply_any w.heap.size g bo bn 0 v L1 r pl A1 np c1 HFIT.out HPL.out HNP.out hL1 _ hs5 (r1.later hB5)).mono ?_
              rintro e w6 ⟨v6, rfl, hs6, ht6, hn6⟩
              have hB6 := hB5.trans (hs5.turn_below ht6 (Nat.le_refl _))
              have hnn := run_eql_nil_nil (P := Try.prog) w6 89 (by kernel_rfl)
              clear hs5 hB5 ht6
              have hY3 := HY.out
              have hXl := HX.out
              go_wp2_with fail
              go_roundw
              case rel =>
                have e1 : (S.log (L1 ++ [r])).length = (S.log L1).length + (ke + 8 + np) := by rw [S.log_snoc, List.length_append, HFL.out]
                have e2 : (S.log (r :: L3)).length = (ke + 8 + np) + (S.log L3).length := by rw [S.log_cons, List.length_append, HFL.out]
                have e3 := hj.out
                have e4 := hj2.out
                refine ⟨L1 ++ [r], L3, v6, A3, j3, c3, Lib.hid (by rw [hL.out]; simp), rfl, by omega, Lib.hid (by rw [e1]; omega), Lib.hid (by omega), ?_, hs6, hB6⟩
                rw [hXl, hY3]
                exact r3
              case measure => simp [restLen]; omega
end Go.Proofs.Ytfanhbemmjcomaa
