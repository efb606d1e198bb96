/- The reference's reader: Back, Int, length, Bytes, End. -/
import Derived.Test.YtkjlafklhdojmaaWireRin
namespace Go.Proofs.Ytkjlafklhdojmaa
open Go.RowKit
set_option linter.unusedVariables false

set_option maxHeartbeats 400000 in
theorem back_any (z : UInt64) (w : World) :
    Calls Try.prog 55 #[.int .u64 (z.toNat : Int)] w fun e w' => e = .returned (.int .i64 (V.uz z)) ∧ w = w' := by
  have hz := z.toNat_lt
  unfold V.uz
  obtain ⟨k, hk⟩ : ∃ k, z.toNat = k := ⟨_, rfl⟩
  rw [hk] at hz ⊢
  clear hk
  by_cases h : k % 2 = 0
  · have hq : ((k : Int) % 2 == 1) = false := by rw [beq_eq_false_iff_ne]; omega
    rw [if_pos h]
    clear h
    go_enter Try.func55, Try.ntmps55
    go_wp2
    go_ret
    exact ⟨ret_i64 (by first | rfl | omega), rfl⟩
  · have hq : ((k : Int) % 2 == 1) = true := by rw [beq_iff_eq]; omega
    rw [if_neg h]
    clear h
    go_enter Try.func55, Try.ntmps55
    go_wp2
    go_ret
    exact ⟨ret_i64 (by first | rfl | omega), rfl⟩

set_option maxHeartbeats 400000 in
theorem rInt_any (B g : Nat) (s : V.St) (hsl : s.1.length ≤ 1000000) (w : World) (h : RIn w B g s) :
    Calls Try.prog 46 #[.pointer (some ⟨g, 0, none⟩)] w fun e w' => e = .returned (.int .i64 (V.rInt s).1) ∧ RIn w' B g (V.rInt s).2 ∧ w.grownBy w' (some g) := by
  go_enter Try.func46, Try.ntmps46
  go_wp2_with fail
  refine (rUint_any B g s hsl _ h).mono ?_
  rintro e w1 ⟨rfl, hin, hg⟩
  go_wp2_with fail
  refine (back_any _ _).mono ?_
  rintro e w2 ⟨rfl, rfl⟩
  go_wp2_with fail
  go_ret
  exact ⟨rfl, hin, hg⟩

set_option maxHeartbeats 400000 in
theorem rEnd_any (B g : Nat) (s : V.St) (w : World) (h : RIn w B g s) :
    Calls Try.prog 26 #[.pointer (some ⟨g, 0, none⟩)] w fun e w' => e = .returned (.int .i64 (V.fin s)) ∧ w = w' := by
  obtain ⟨bs, e⟩ := s
  obtain ⟨h0, A, c, h1, h2, h3, h4⟩ := h
  have hc0 := h1.cell0
  have hf0 := h1.frozen0
  have hc1 := h1.cell1
  have hf1 := h1.frozen1
  unfold V.fin
  by_cases he : e = 0
  · subst he
    cases bs with
    | nil =>
      go_enter Try.func26, Try.ntmps26
      go_wp2
      go_ret
      exact ⟨by simp, rfl⟩
    | cons b bs =>
      go_enter Try.func26, Try.ntmps26
      go_wp2
      go_ret
      exact ⟨by simp, rfl⟩
  · go_enter Try.func26, Try.ntmps26
    go_wp2
    go_ret
    exact ⟨rfl, rfl⟩

set_option maxRecDepth 10000 in
set_option maxHeartbeats 2000000 in
theorem rLen_any (B g : Nat) (most : Int) (hm1 : -9223372036854775808 ≤ most) (hm2 : most ≤ 9223372036854775807) (s : V.St) (hsl : s.1.length ≤ 1000000) (w : World) (h : RIn w B g s) :
    Calls Try.prog 56 #[.pointer (some ⟨g, 0, none⟩), .int .i64 most] w fun e w' => e = .returned (.int .i64 (V.rLen s most : Int)) ∧ RIn w' B g (V.rLim s most) ∧ w.grownBy w' (some g) := by
  have hun := rUint_any B g s hsl w h
  obtain ⟨L, hL⟩ : ∃ L, V.rLim s most = L := ⟨_, rfl⟩
  obtain ⟨N, hN⟩ : ∃ N, V.rLen s most = N := ⟨_, rfl⟩
  have hNN := hN
  have hLL := hL
  unfold V.rLen at hNN
  unfold V.rLim at hLL
  rw [hL] at hNN
  rw [hL, hN]
  clear hL hN
  obtain ⟨⟨n, r⟩, hU⟩ : ∃ U, V.rUint s = U := ⟨_, rfl⟩
  rw [hU] at hun hLL hNN
  clear hU
  have hn := n.toNat_lt
  obtain ⟨nn, hnn⟩ : ∃ nn, n.toNat = nn := ⟨_, rfl⟩
  simp only [hnn] at hLL hNN hun
  rw [hnn] at hn
  clear hnn
  obtain ⟨bs, e⟩ := r
  by_cases he : e = 0
  · subst he
    by_cases hneg : most < 0
    · rw [if_pos ⟨rfl, .inl hneg⟩] at hLL
      subst hLL
      rw [if_neg (by show ¬ (2 : Int) = 0; decide)] at hNN
      subst hNN
      go_enter Try.func56, Try.ntmps56
      go_wp2_with fail
      refine hun.mono ?_
      rintro e w1 ⟨rfl, hin1, hg1⟩
      obtain ⟨_, A1, c1, k1, _, _, _⟩ := id hin1
      have kc1 := k1.cell1
      have kf1 := k1.frozen1
      clear k1 hun
      go_wp2_with fail
      refine (rFail_any B g (bs, 0) 2 _ hin1).mono ?_
      rintro e w2 ⟨rfl, hin2, hg2⟩
      have hin2 : RIn w2 B g (bs, 2) := hin2
      obtain ⟨_, A2, c2, k2, _, _, _⟩ := id hin2
      have kc2 := k2.cell1
      have kf2 := k2.frozen1
      clear k2 kc1 kf1
      go_wp2_with fail
      go_ret
      exact ⟨rfl, hin2, only_trans hg1 hg2⟩
    · have hpos : 0 ≤ most := by omega
      by_cases hlt : most < (nn : Int)
      · rw [if_pos ⟨rfl, .inr hlt⟩] at hLL
        subst hLL
        rw [if_neg (by show ¬ (2 : Int) = 0; decide)] at hNN
        subst hNN
        go_enter Try.func56, Try.ntmps56
        go_wp2_with fail
        refine hun.mono ?_
        rintro e w1 ⟨rfl, hin1, hg1⟩
        obtain ⟨_, A1, c1, k1, _, _, _⟩ := id hin1
        have kc1 := k1.cell1
        have kf1 := k1.frozen1
        clear k1 hun
        go_wp2_with fail
        refine (rFail_any B g (bs, 0) 2 _ hin1).mono ?_
        rintro e w2 ⟨rfl, hin2, hg2⟩
        have hin2 : RIn w2 B g (bs, 2) := hin2
        obtain ⟨_, A2, c2, k2, _, _, _⟩ := id hin2
        have kc2 := k2.cell1
        have kf2 := k2.frozen1
        clear k2 kc1 kf1
        go_wp2_with fail
        go_ret
        exact ⟨rfl, hin2, only_trans hg1 hg2⟩
      · rw [if_neg (by rintro ⟨_, h | h⟩ <;> omega)] at hLL
        subst hLL
        rw [if_pos rfl] at hNN
        subst hNN
        go_enter Try.func56, Try.ntmps56
        go_wp2_with fail
        refine hun.mono ?_
        rintro e w1 ⟨rfl, hin1, hg1⟩
        obtain ⟨_, A1, c1, k1, _, _, _⟩ := id hin1
        have kc1 := k1.cell1
        have kf1 := k1.frozen1
        clear k1 hun
        go_wp2_with fail
        go_ret
        exact ⟨rfl, hin1, hg1⟩
  · rw [if_neg (fun h => he h.1)] at hLL
    subst hLL
    rw [if_neg he] at hNN
    subst hNN
    go_enter Try.func56, Try.ntmps56
    go_wp2_with fail
    refine hun.mono ?_
    rintro e' w1 ⟨rfl, hin1, hg1⟩
    obtain ⟨_, A1, c1, k1, _, _, _⟩ := id hin1
    have kc1 := k1.cell1
    have kf1 := k1.frozen1
    clear k1 hun
    go_wp2_with fail
    go_ret
    exact ⟨rfl, hin1, hg1⟩

set_option maxRecDepth 10000 in
set_option maxHeartbeats 2000000 in
theorem rBytes_any (B g : Nat) (most : Int) (hm1 : -9223372036854775808 ≤ most) (hm2 : most ≤ 9223372036854775807) (s : V.St) (hsl : s.1.length ≤ 1000000) (w : World) (h : RIn w B g s) (l : List UInt8) (k : Nat) (s' : V.St) (hR : V.rBytes most s = (l, s')) (hk : l.length = k) :
    Calls Try.prog 47 #[.pointer (some ⟨g, 0, none⟩), .int .i64 most] w fun e w' =>
      ∃ A c, e = .returned (.slice A k c) ∧ Reads w' B 1 A k (bv l) ∧ RIn w' B g s' ∧ w.grownBy w' (some g) := by
  have hun := rLen_any B g most hm1 hm2 s hsl w h
  have hle := V.rLim_le s most
  have hln := V.rLen_le s most hm2
  unfold V.rBytes at hR
  obtain ⟨⟨bs, e⟩, hL⟩ : ∃ L, V.rLim s most = L := ⟨_, rfl⟩
  obtain ⟨N, hN⟩ : ∃ N, V.rLen s most = N := ⟨_, rfl⟩
  rw [hL, hN] at hun hR
  rw [hL] at hle
  rw [hN] at hln
  have hN0 : e ≠ 0 → N = 0 := by
    intro he
    rw [← hN]; unfold V.rLen
    rw [hL, if_neg he]
  clear hL hN
  simp only at hR
  have hle : bs.length ≤ s.1.length := hle
  by_cases he : e = 0
  · subst he
    rw [if_pos rfl] at hR
    clear hN0
    obtain ⟨n, hn⟩ : ∃ n, bs.length = n := ⟨_, rfl⟩
    rw [hn] at hR hle
    by_cases hc : N ≤ n
    · rw [if_pos hc] at hR
      injection hR with hl hs'
      subst hl hs'
      have hkN : N = k := by rw [← hk, List.length_take]; omega
      subst hkN
      have HN := Lib.hid hn
      have HK := Lib.hid hk
      clear hn hk
      go_enter Try.func47, Try.ntmps47
      go_wp2_with fail
      refine hun.mono ?_
      rintro e w1 ⟨rfl, hin1, hg1⟩
      obtain ⟨hBg, A1, c1, k1, k2, k3, k4⟩ := hin1
      simp only at k1 k2 k4
      rw [HN.out] at k1 k2 k4
      have kc1 := k1.cell1
      have kf1 := k1.frozen1
      have kc0 := k1.cell0
      have kf0 := k1.frozen0
      unfold maxLen at k3
      clear hun
      have hcut := k4.cut (k := N) (cap := c1) hc k2
      rw [Nat.mul_one, ← bv_drop] at hcut
      have htk := k4.take hc
      rw [← few_take] at htk
      by_cases hcc : c1 = N
      · obtain rfl : N = c1 := hcc.symm
        obtain rfl : N = n := by omega
        rw [if_pos rfl] at hcut
        have hcut0 : Reads w1 B 1 A1 0 (bv (bs.drop N)) := by simpa using hcut
        clear hcut
        cases A1 with
        | none =>
          go_wp2_with fail
          go_ret
          exact ⟨_, _, rfl, htk.setCell hBg _, rin_step hBg k1 (by have := HN.out; simp only [List.length_drop]; omega) (by omega) (by unfold maxLen; omega) hcut0, only_trans hg1 (only_setCell (only_refl _ _) (.inl rfl) _)⟩
        | some ad =>
          go_wp2_with fail
          go_ret
          exact ⟨_, _, rfl, htk.setCell hBg _, rin_step hBg k1 (by have := HN.out; simp only [List.length_drop]; omega) (by omega) (by unfold maxLen; omega) hcut0, only_trans hg1 (only_setCell (only_refl _ _) (.inl rfl) _)⟩
      · rw [if_neg hcc] at hcut
        cases A1 with
        | none =>
          go_wp2_with fail
          go_ret
          exact ⟨_, _, rfl, htk.setCell hBg _, rin_step hBg k1 (by have := HN.out; simp only [List.length_drop]; omega) (by omega) (by unfold maxLen; omega) hcut, only_trans hg1 (only_setCell (only_refl _ _) (.inl rfl) _)⟩
        | some ad =>
          have hcut : Reads w1 B 1 (some (ad.add N)) (n - N) (bv (bs.drop N)) := hcut
          go_wp2_with fail
          go_ret
          exact ⟨_, _, rfl, htk.setCell hBg _, rin_step hBg k1 (by have := HN.out; simp only [List.length_drop]; omega) (by omega) (by unfold maxLen; omega) hcut, only_trans hg1 (only_setCell (only_refl _ _) (.inl rfl) _)⟩
    · rw [if_neg hc] at hR
      injection hR with hl hs'
      subst hl hs'
      have hk : 0 = k := hk
      subst hk
      have HN := Lib.hid hn
      clear hn
      go_enter Try.func47, Try.ntmps47
      go_wp2_with fail
      refine hun.mono ?_
      rintro e w1 ⟨rfl, hin1, hg1⟩
      obtain ⟨hBg, A1, c1, k1, k2, k3, k4⟩ := id hin1
      simp only at k1 k2 k4
      rw [HN.out] at k1 k2 k4
      have kc1 := k1.cell1
      have kf1 := k1.frozen1
      have kc0 := k1.cell0
      have kf0 := k1.frozen0
      clear hun k1 k2 k3 k4
      go_wp2_with fail
      refine (rFail_any B g (bs, 0) 7 _ hin1).mono ?_
      rintro e w2 ⟨rfl, hin2, hg2⟩
      have hin2 : RIn w2 B g (bs, 7) := hin2
      obtain ⟨_, A2, c2, k2, _, _, _⟩ := id hin2
      have kc2 := k2.cell1
      have kf2 := k2.frozen1
      clear k2 kc1 kf1
      go_wp2_with fail
      go_ret
      exact ⟨none, 0, rfl, Reads.none_, hin2, only_trans hg1 hg2⟩
  · rw [if_neg he] at hR
    injection hR with hl hs'
    subst hl hs'
    have hk : 0 = k := hk
    subst hk
    obtain rfl := hN0 he
    clear hN0
    go_enter Try.func47, Try.ntmps47
    go_wp2_with fail
    refine hun.mono ?_
    rintro e' w1 ⟨rfl, hin1, hg1⟩
    obtain ⟨_, A1, c1, k1, _, _, _⟩ := id hin1
    have kc1 := k1.cell1
    have kf1 := k1.frozen1
    clear k1 hun
    go_wp2_with fail
    go_ret
    exact ⟨none, 0, rfl, Reads.none_, hin1, hg1⟩
end Go.Proofs.Ytkjlafklhdojmaa
