/- The reference's reader: Fail, Uint. -/
import Derived.Test.YtkjlafklhdojmaaWirePlain8
namespace Go.Proofs.Ytkjlafklhdojmaa
open Go.RowKit
set_option linter.unusedVariables false

/-- The reference's reader at block g: its bytes lie below B. -/
def RIn (W : World) (B g : Nat) (s : V.St) : Prop :=
  B ≤ g ∧ ∃ A c, Two W g 43 (.slice A s.1.length c) (.int .i64 s.2) ∧ s.1.length ≤ c ∧ c ≤ maxLen ∧ Reads W B 1 A s.1.length (bv s.1)
section
variable {W W' : World} {B g : Nat} {s : V.St}
theorem RIn.lt (h : RIn W B g s) : g < W.heap.size := by obtain ⟨_, _, _, h, _⟩ := h; exact h.lt
theorem RIn.kept {row : Option Nat} (h : RIn W B g s) (hg : W.grownBy W' row) (hr : ∀ k, row = some k → B ≤ k ∧ g ≠ k) : RIn W' B g s := by
  have hlt := h.lt
  obtain ⟨h0, A, c, h1, h2, h3, h4⟩ := h
  exact ⟨h0, A, c, h1.kept hg (fun e => (hr _ e.symm).2 rfl), h2, h3, h4.grown hg (by omega) (fun k e => (hr k e).1)⟩
theorem RIn.below (h : RIn W B g s) (hb : Below W.heap.size W W') : RIn W' B g s := h.kept (only_of_below hb none) (fun k e => by cases e)
theorem RIn.err (h : RIn W B g s) (x : Int) : RIn (W.setCell ⟨g, 1, none⟩ (.int .i64 x)) B g (s.1, x) := by
  obtain ⟨h0, A, c, h1, h2, h3, h4⟩ := h
  exact ⟨h0, A, c, h1.set1 _, h2, h3, h4.setCell h0 _⟩
/-- The reader's bytes are set anew. -/
theorem rin_step {A : Option Addr} {c n : Nat} {bs : List UInt8} {x : Value} {e : Int} (hB : B ≤ g) (h1 : Two W g 43 x (.int .i64 e)) (hN : bs.length = n) (hn : n ≤ c) (hc : c ≤ maxLen) (hr : Reads W B 1 A n (bv bs)) : RIn (W.setCell ⟨g, 0, none⟩ (.slice A n c)) B g (bs, e) := by
  subst hN
  exact ⟨hB, A, c, h1.set0 _, hn, hc, hr.setCell hB _⟩
end

set_option maxHeartbeats 400000 in
theorem rFail_any (B g : Nat) (s : V.St) (x : Int) (w : World) (h : RIn w B g s) :
    Calls Try.prog 54 #[.pointer (some ⟨g, 0, none⟩), .int .i64 x] w fun e w' => e = .returned (.tuple #[]) ∧ RIn w' B g (V.fail s x) ∧ w.grownBy w' (some g) := by
  obtain ⟨bs, e⟩ := s
  have h' := h
  obtain ⟨h0, A, c, h1, h2, h3, h4⟩ := h
  have hc1 := h1.cell1
  have hf1 := h1.frozen1
  unfold V.fail
  by_cases he : e = 0
  · subst he
    go_enter Try.func54, Try.ntmps54
    go_wp2
    go_end0
    refine ⟨rfl, ?_, only_setCell (only_refl _ _) (.inl rfl) _⟩
    simpa using h'.err x
  · go_enter Try.func54, Try.ntmps54
    go_wp2
    go_end0
    refine ⟨rfl, ?_, only_refl _ _⟩
    simpa [he] using h'

theorem bv_drop (l : List UInt8) (k : Nat) : bv (l.drop k) = (bv l).drop k := by simp [bv, List.map_drop]
theorem acc_wrap {n : UInt64} {b i u : Nat} (hn : n.toNat < 128 ^ i) (hi : i ≤ 9) (hd : b % 128 * 128 ^ i < 18446744073709551616) (hu : u = 128 ^ i) (m : UInt64) (hm : n ||| UInt64.ofNat (b % 128) <<< UInt64.ofNat (7 * i) = m) :
    IntKind.u64.wrap ((n.toNat : Int) + IntKind.u64.wrap ((b : Int) % 128 * (u : Int))) = (m.toNat : Int) := by
  have h1 := V.acc_nat n (b % 128) i hn hi hd (Nat.mod_lt _ (by omega))
  rw [hm] at h1
  have e1 : (b : Int) % 128 * (u : Int) = ((b % 128 * 128 ^ i : Nat) : Int) := by rw [hu]; simp
  have hml := m.toNat_lt
  obtain ⟨K, hK⟩ : ∃ K, b % 128 * 128 ^ i = K := ⟨_, rfl⟩
  rw [hK] at e1 h1 hd
  have e2 : IntKind.u64.wrap (K : Int) = (K : Int) := IntWalk.u64_in _ (by omega)
  have e3 : IntKind.u64.wrap ((n.toNat : Int) + (K : Int)) = (n.toNat : Int) + (K : Int) := IntWalk.u64_in _ (by omega)
  rw [e1, e2, e3]
  omega
theorem acc_form2 {n : UInt64} {d i : Nat} (hn : n.toNat < 128 ^ i) (hi : i ≤ 9) (hd : d * 128 ^ i < 18446744073709551616) (hd2 : d < 128) (m : UInt64) (hm : n ||| UInt64.ofNat d <<< UInt64.ofNat (7 * i) = m) : ((n.toNat + d * 128 ^ i : Nat) : Int) = (m.toNat : Int) := by
  rw [← hm, V.acc_nat n d i hn hi hd hd2]

set_option maxRecDepth 10000 in
set_option maxHeartbeats 2000000 in
theorem rUint_any (B g : Nat) (s : V.St) (hsl : s.1.length ≤ 1000000) (w : World) (h : RIn w B g s) :
    Calls Try.prog 45 #[.pointer (some ⟨g, 0, none⟩)] w fun e w' => e = .returned (.int .u64 ((V.rUint s).1.toNat : Int)) ∧ RIn w' B g (V.rUint s).2 ∧ w.grownBy w' (some g) := by
  obtain ⟨bs, e⟩ := s
  have h' := h
  obtain ⟨hBg, A, c, h1, h2, h3, h4⟩ := h
  have hc0 := h1.cell0
  have hf0 := h1.frozen0
  have hc1 := h1.cell1
  have hf1 := h1.frozen1
  by_cases he : e = 0
  · subst he
    obtain ⟨R, hR⟩ : ∃ R, V.rUint (bs, 0) = R := ⟨_, rfl⟩
    rw [hR]
    obtain ⟨D, hD⟩ : ∃ D, V.rdF 0 0 bs = D := ⟨_, rfl⟩
    have hRD : R = (if D.2.2 = 0 then D else (0, (bs, D.2.2))) := by
      rw [← hR, ← hD]; unfold V.rUint V.rdUint; rfl
    have HR := Lib.hid hRD
    have HD := Lib.hid hD
    clear hR hRD hD
    obtain ⟨n, hn⟩ : ∃ n, bs.length = n := ⟨_, rfl⟩
    have HN := Lib.hid hn
    simp only at h1 h2 h4 hc0 hsl
    rw [hn] at h1 h2 h4 hc0 hsl
    clear hn
    unfold maxLen at h3
    go_enter Try.func45, Try.ntmps45
    go_wp2
    go_loop [3, 4, 5] (fun nv uv ix => ∃ (i u : Nat) (a : UInt64), i ≤ 9 ∧ i ≤ n ∧ ix = .int .i64 (i : Int) ∧ uv = .int .u64 (u : Int) ∧ nv = .int .u64 (a.toNat : Int) ∧ u ≤ 9223372036854775808 ∧ Hid (u = 128 ^ i ∧ a.toNat < 128 ^ i ∧ V.rdF i a (bs.drop i) = D))
      (fun _ _ ix => 20 - (intOf ix).toNat)
    case atStart => exact ⟨0, 1, 0, by omega, Nat.zero_le _, rfl, rfl, rfl, by omega, by decide, by decide, HD.out⟩
    case round =>
      obtain ⟨i, u, a, hi9, hin, rfl, rfl, rfl, hu, hst⟩ := hrel
      by_cases hlt : i < n
      · obtain ⟨ad, uu, rfl, hbk, hue, hcell⟩ := h4.at_ hlt
        obtain ⟨b, hb, rfl⟩ := bv_at hue
        have hdr : bs.drop i = b :: bs.drop (i + 1) := by
          obtain ⟨hl, he⟩ := List.getElem?_eq_some_iff.1 hb
          rw [List.drop_eq_getElem_cons hl, he]
        obtain ⟨hs1, hs2, hs3⟩ := hst.out
        rw [hdr] at hs3
        unfold V.rdF at hs3
        have hb256 := b.toNat_lt
        obtain ⟨m, hm⟩ : ∃ m : UInt64, a ||| UInt64.ofNat (b.toNat % 128) <<< UInt64.ofNat (7 * i) = m := ⟨_, rfl⟩
        rw [hm] at hs3
        have hi1 : (0 : Int) ≤ (i : Int) := by omega
        have hi2 : (i : Int) < (n : Int) := by omega
        have hcut := h4.cut (k := i + 1) (cap := c) (by omega) h2
        rw [Nat.mul_one, ← bv_drop] at hcut
        by_cases hbad : (i = 9 ∧ 1 < b.toNat) ∨ (0 < i ∧ b.toNat = 0)
        · rw [if_pos hbad] at hs3
          clear hm hcut
          by_cases c9 : i = 9
          · subst c9
            have hcell9 : w.cell? ⟨ad.block, ad.off + 9, none⟩ = some (.int .u8 (b.toNat : Int)) := hcell
            clear hcell
            by_cases hb1 : 1 < b.toNat
            · have hb1' : (1 : Int) < (b.toNat : Int) := by omega
              have HS3 := Lib.hid hs3
              clear hs1 hs2 hs3 hdr hb hue hst hbad
              go_wp2_with fail
              refine (rFail_any B g (bs, 0) 8 _ h').mono ?_
              rintro e w1 ⟨rfl, hin1, hg1⟩
              have hin1 : RIn w1 B g (bs, 8) := hin1
              go_wp2_with fail
              go_ret
              have hR := HR.out
              rw [← HS3.out] at hR
              have hR : R = (0, (bs, 8)) := by rw [hR]; rfl
              rw [hR]
              exact ⟨rfl, hin1, hg1⟩
            · have hb1' : (b.toNat : Int) ≤ 1 := by omega
              have hz : ((b.toNat : Int) == 0) = true := by rw [beq_iff_eq]; omega
              have HS3 := Lib.hid hs3
              clear hs1 hs2 hs3 hdr hb hue hst hbad
              go_wp2_with fail
              refine (rFail_any B g (bs, 0) 8 _ h').mono ?_
              rintro e w1 ⟨rfl, hin1, hg1⟩
              have hin1 : RIn w1 B g (bs, 8) := hin1
              go_wp2_with fail
              go_ret
              have hR := HR.out
              rw [← HS3.out] at hR
              have hR : R = (0, (bs, 8)) := by rw [hR]; rfl
              rw [hR]
              exact ⟨rfl, hin1, hg1⟩
          · have hq : ((i : Int) == 9) = false := by rw [beq_eq_false_iff_ne]; omega
            have hi0 : (0 : Int) < (i : Int) := by omega
            have hz : ((b.toNat : Int) == 0) = true := by rw [beq_iff_eq]; omega
            have HS3 := Lib.hid hs3
            clear hs1 hs2 hs3 hdr hb hue hst hbad
            go_wp2_with fail
            refine (rFail_any B g (bs, 0) 8 _ h').mono ?_
            rintro e w1 ⟨rfl, hin1, hg1⟩
            have hin1 : RIn w1 B g (bs, 8) := hin1
            go_wp2_with fail
            go_ret
            have hR := HR.out
            rw [← HS3.out] at hR
            have hR : R = (0, (bs, 8)) := by rw [hR]; rfl
            rw [hR]
            exact ⟨rfl, hin1, hg1⟩
        · rw [if_neg hbad] at hs3
          by_cases hs : b.toNat < 128
          · rw [if_pos hs] at hs3
            have hs' : (b.toNat : Int) < 128 := by omega
            have hacc := acc_wrap hs2 hi9 (by
              rw [Nat.mod_eq_of_lt hs]
              by_cases c9 : i = 9
              · subst c9
                have e : (128 : Nat) ^ 9 = 9223372036854775808 := by decide
                have : b.toNat ≤ 1 := by omega
                rw [e]; omega
              · exact V.low_lt (by omega) hs) hs1 m hm
            clear hm
            by_cases c0 : i = 0
            · subst c0
              rw [Addr.add_zero'] at hcell
              have hq : (((0 : Nat) : Int) == 9) = false := by rw [beq_eq_false_iff_ne]; omega
              have HS3 := Lib.hid hs3
              have HAC := Lib.hid hacc
              clear hs1 hs2 hs3 hdr hb hue hst hbad hacc
              by_cases hc : c = 0 + 1
              · obtain rfl : n = c := by omega
                obtain rfl : n = 0 + 1 := by omega
                rw [if_pos rfl] at hcut
                have hcut : Reads w B 1 (some ad) 0 (bv (bs.drop (0 + 1))) := by simpa using hcut
                go_wp2_with fail
                go_ret
                have hR := HR.out
                rw [← HS3.out] at hR
                have hR : R = (m, (bs.drop (0 + 1), 0)) := by rw [hR]; rfl
                rw [hR]
                exact ⟨by first | rfl | (rw [HAC.out]; rfl) | rw [HAC.out], rin_step hBg h1 (by have := HN.out; simp only [List.length_drop]; omega) (by omega) (by unfold maxLen; omega) hcut, only_setCell (only_refl _ _) (.inl rfl) _⟩
              · rw [if_neg hc] at hcut
                have hcut : Reads w B 1 (some (ad.add (0 + 1))) (n - (0 + 1)) (bv (bs.drop (0 + 1))) := by simpa using hcut
                go_wp2_with fail
                go_ret
                have hR := HR.out
                rw [← HS3.out] at hR
                have hR : R = (m, (bs.drop (0 + 1), 0)) := by rw [hR]; rfl
                rw [hR]
                exact ⟨by first | rfl | (rw [HAC.out]; rfl) | rw [HAC.out], rin_step hBg h1 (by have := HN.out; simp only [List.length_drop]; omega) (by omega) (by unfold maxLen; omega) hcut, only_setCell (only_refl _ _) (.inl rfl) _⟩
            · have hi0 : (0 : Int) < (i : Int) := by omega
              have hz : ((b.toNat : Int) == 0) = false := by rw [beq_eq_false_iff_ne]; omega
              by_cases c9 : i = 9
              · subst c9
                have hcell9 : w.cell? ⟨ad.block, ad.off + 9, none⟩ = some (.int .u8 (b.toNat : Int)) := hcell
                clear hcell
                have hb1' : (b.toNat : Int) ≤ 1 := by omega
                have HS3 := Lib.hid hs3
                have HAC := Lib.hid hacc
                clear hs1 hs2 hs3 hdr hb hue hst hbad hacc
                by_cases hc : c = 9 + 1
                · obtain rfl : n = c := by omega
                  obtain rfl : n = 9 + 1 := by omega
                  rw [if_pos rfl] at hcut
                  have hcut : Reads w B 1 (some ad) 0 (bv (bs.drop (9 + 1))) := by simpa using hcut
                  go_wp2_with fail
                  go_ret
                  have hR := HR.out
                  rw [← HS3.out] at hR
                  have hR : R = (m, (bs.drop (9 + 1), 0)) := by rw [hR]; rfl
                  rw [hR]
                  exact ⟨by first | rfl | (rw [HAC.out]; rfl) | rw [HAC.out], rin_step hBg h1 (by have := HN.out; simp only [List.length_drop]; omega) (by omega) (by unfold maxLen; omega) hcut, only_setCell (only_refl _ _) (.inl rfl) _⟩
                · rw [if_neg hc] at hcut
                  have hcut : Reads w B 1 (some (ad.add (9 + 1))) (n - (9 + 1)) (bv (bs.drop (9 + 1))) := by simpa using hcut
                  go_wp2_with fail
                  go_ret
                  have hR := HR.out
                  rw [← HS3.out] at hR
                  have hR : R = (m, (bs.drop (9 + 1), 0)) := by rw [hR]; rfl
                  rw [hR]
                  exact ⟨by first | rfl | (rw [HAC.out]; rfl) | rw [HAC.out], rin_step hBg h1 (by have := HN.out; simp only [List.length_drop]; omega) (by omega) (by unfold maxLen; omega) hcut, only_setCell (only_refl _ _) (.inl rfl) _⟩
              · have hq : ((i : Int) == 9) = false := by rw [beq_eq_false_iff_ne]; omega
                have HS3 := Lib.hid hs3
                have HAC := Lib.hid hacc
                clear hs1 hs2 hs3 hdr hb hue hst hbad hacc
                by_cases hc : c = i + 1
                · obtain rfl : n = c := by omega
                  obtain rfl : n = i + 1 := by omega
                  rw [if_pos rfl] at hcut
                  have hcut : Reads w B 1 (some ad) 0 (bv (bs.drop (i + 1))) := by simpa using hcut
                  go_wp2_with fail
                  go_ret
                  have hR := HR.out
                  rw [← HS3.out] at hR
                  have hR : R = (m, (bs.drop (i + 1), 0)) := by rw [hR]; rfl
                  rw [hR]
                  exact ⟨by first | rfl | (rw [HAC.out]; rfl) | rw [HAC.out], rin_step hBg h1 (by have := HN.out; simp only [List.length_drop]; omega) (by omega) (by unfold maxLen; omega) hcut, only_setCell (only_refl _ _) (.inl rfl) _⟩
                · rw [if_neg hc] at hcut
                  have hcut : Reads w B 1 (some (ad.add (i + 1))) (n - (i + 1)) (bv (bs.drop (i + 1))) := by simpa using hcut
                  go_wp2_with fail
                  go_ret
                  have hR := HR.out
                  rw [← HS3.out] at hR
                  have hR : R = (m, (bs.drop (i + 1), 0)) := by rw [hR]; rfl
                  rw [hR]
                  exact ⟨by first | rfl | (rw [HAC.out]; rfl) | rw [HAC.out], rin_step hBg h1 (by have := HN.out; simp only [List.length_drop]; omega) (by omega) (by unfold maxLen; omega) hcut, only_setCell (only_refl _ _) (.inl rfl) _⟩
          · rw [if_neg hs] at hs3
            have hs' : (128 : Int) ≤ (b.toNat : Int) := by omega
            have hi8 : i < 9 := by omega
            have hacc := acc_wrap hs2 hi9 (V.low_lt (by omega) (Nat.mod_lt _ (by omega))) hs1 m hm
            have hnx : m.toNat < 128 ^ (i + 1) := by
              have h1 := V.acc_nat a (b.toNat % 128) i hs2 hi9 (V.low_lt (by omega) (Nat.mod_lt _ (by omega))) (Nat.mod_lt _ (by omega))
              rw [hm] at h1
              have e : 128 ^ (i + 1) = 128 ^ i * 128 := Nat.pow_succ 128 i
              have h3 : b.toNat % 128 * 128 ^ i ≤ 127 * 128 ^ i := Nat.mul_le_mul_right _ (by omega)
              rw [h1, e]; omega
            clear hm
            have hu9 : u * 128 ≤ 9223372036854775808 := by
              rw [hs1]
              have := Nat.pow_le_pow_right (show 0 < 128 by omega) (show i ≤ 8 by omega)
              have e8 : (128 : Nat) ^ 8 = 72057594037927936 := by decide
              omega
            have hq : ((i : Int) == 9) = false := by rw [beq_eq_false_iff_ne]; omega
            by_cases c0 : i = 0
            · subst c0
              rw [Addr.add_zero'] at hcell
              have HS3 := Lib.hid hs3
              have HAC := Lib.hid hacc
              have HNX := Lib.hid hnx
              have hu8 : u ≤ 72057594037927936 := by
                rw [hs1]
                have := Nat.pow_le_pow_right (show 0 < 128 by omega) (show 0 ≤ 8 by omega)
                have e8 : (128 : Nat) ^ 8 = 72057594037927936 := by decide
                omega
              have HU := Lib.hid (show u * 128 = 128 ^ (0 + 1) by rw [hs1, Nat.pow_succ])
              clear hs1 hs2 hs3 hdr hb hue hst hbad hacc hnx hcut
              go_wp2_with fail
              go_round
              case rel => exact ⟨0 + 1, u * 128, m, by omega, by omega, by go_num, by go_num, by first | rfl | (rw [HAC.out]; rfl) | rw [HAC.out], by omega, HU.out, HNX.out, HS3.out⟩
              case measure => simp [intOf] <;> omega
            · have hi0 : (0 : Int) < (i : Int) := by omega
              have hz : ((b.toNat : Int) == 0) = false := by rw [beq_eq_false_iff_ne]; omega
              have HS3 := Lib.hid hs3
              have HAC := Lib.hid hacc
              have HNX := Lib.hid hnx
              have hu8 : u ≤ 72057594037927936 := by
                rw [hs1]
                have := Nat.pow_le_pow_right (show 0 < 128 by omega) (show i ≤ 8 by omega)
                have e8 : (128 : Nat) ^ 8 = 72057594037927936 := by decide
                omega
              have HU := Lib.hid (show u * 128 = 128 ^ (i + 1) by rw [hs1, Nat.pow_succ])
              clear hs1 hs2 hs3 hdr hb hue hst hbad hacc hnx hcut
              go_wp2_with fail
              go_round
              case rel => exact ⟨i + 1, u * 128, m, by omega, by omega, by go_num, by go_num, by first | rfl | (rw [HAC.out]; rfl) | rw [HAC.out], by omega, HU.out, HNX.out, HS3.out⟩
              case measure => simp [intOf] <;> omega
      · have hnil : bs.drop i = [] := List.drop_eq_nil_of_le (by rw [HN.out]; omega)
        have hs3 := hst.out.2.2
        rw [hnil] at hs3
        have hs3 : ((0 : UInt64), (([] : List UInt8), (7 : Int))) = D := hs3
        have HS3 := Lib.hid hs3
        clear hnil hs3
        have hlt2 : (n : Int) ≤ (i : Int) := by omega
        go_wp2_with fail
        refine (rFail_any B g (bs, 0) 7 _ h').mono ?_
        rintro e w1 ⟨rfl, hin1, hg1⟩
        have hin1 : RIn w1 B g (bs, 7) := hin1
        go_wp2_with fail
        go_ret
        have hR := HR.out
        rw [← HS3.out] at hR
        have hR : R = (0, (bs, 7)) := by rw [hR]; rfl
        rw [hR]
        exact ⟨rfl, hin1, hg1⟩
  · have hR : V.rUint (bs, e) = (0, (bs, e)) := by
      unfold V.rUint
      rw [V.rdUint_stop he]
      show (if e = 0 then _ else _) = _
      rw [if_neg he]
    rw [hR]
    go_enter Try.func45, Try.ntmps45
    go_wp2
    go_loop [3] (fun nv => True) (fun _ => 0)
    case atStart => trivial
    case round =>
      go_wp2
      go_ret
      exact ⟨rfl, h', only_refl _ _⟩
end Go.Proofs.Ytkjlafklhdojmaa
