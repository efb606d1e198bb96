/- The law WireSizes, walked. -/
import Derived.Test.YtkjlafklhdojmaaWireLives
namespace Go.Proofs.Ytkjlafklhdojmaa
open Go.RowKit
set_option linter.unusedVariables false

set_option maxHeartbeats 400000 in
theorem bound_any (n m : Int) (h1 : -9223372036854775808 ≤ n) (h2 : n ≤ 9223372036854775807) (hm : 0 ≤ m) (hm2 : m ≤ 1000000) (w : World) :
    Calls Try.prog 13 #[.int .i64 n, .int .i64 m] w fun e w' => e = .returned (.int .i64 (arN n (2 * m + 1) - m)) ∧ w = w' := by
  have hb := arN_bd n (2 * m + 1) (by omega)
  have hc := fun W => around_any n (2 * m + 1) h1 h2 (by omega) (by omega) W
  obtain ⟨x, hx⟩ : ∃ x, arN n (2 * m + 1) = x := ⟨_, rfl⟩
  rw [hx] at hb ⊢
  simp only [hx] at hc
  clear hx
  go_enter Try.func13, Try.ntmps13
  go_wp2_with fail
  refine (hc _).mono ?_
  rintro e w1 ⟨rfl, rfl⟩
  go_wp2_with fail
  go_ret
  exact ⟨rfl, rfl⟩
theorem bound_val (n : Int) (x : Int) (h1 : -9223372036854775808 ≤ n) (h2 : n ≤ 9223372036854775807) (hx : arN n 127 - 63 = x) (w : World) :
    Calls Try.prog 13 #[.int .i64 n, .int .i64 63] w fun e w' => e = .returned (.int .i64 x) ∧ w = w' := by
  subst hx; exact bound_any n 63 h1 h2 (by omega) (by omega) w
/-- How many rounds more WireSizes goes. -/
def V.More (m s L : Nat) : Prop := (m = 0 ∧ s = L) ∨ ∃ f, 0 < m ∧ m < 128 ^ (f + 1) ∧ s + (V.encF f m).length = L
theorem V.More.start (k : UInt64) : V.More (k.toNat / 128) 1 (V.enc k).length := by
  by_cases h : k.toNat < 128
  · refine .inl ⟨by omega, ?_⟩
    show 1 = (V.encF 9 k.toNat).length
    rw [V.encF_small h]; rfl
  · refine .inr ⟨8, by omega, V.pow_step (V.pow_start k), ?_⟩
    show _ = (V.encF 9 k.toNat).length
    rw [V.encF_big (f := 8) (n := k.toNat) (by omega), List.length_cons]; omega
theorem V.More.step {m s L : Nat} (h : V.More m s L) (hm : 0 < m) : V.More (m / 128) (s + 1) L := by
  rcases h with ⟨h0, _⟩ | ⟨f, _, hp, hl⟩
  · omega
  · by_cases h : m < 128
    · exact .inl ⟨by omega, by rw [V.encF_small h] at hl; exact hl⟩
    · cases f with
      | zero => exact absurd (V.pow_end hp) h
      | succ f =>
        refine .inr ⟨f, by omega, V.pow_step hp, ?_⟩
        rw [V.encF_big (by omega), List.length_cons] at hl; omega
theorem V.More.done {s L : Nat} (h : V.More 0 s L) : s = L := by
  rcases h with ⟨_, h⟩ | ⟨f, h, _⟩
  · exact h
  · omega
theorem V.More.le {m s L : Nat} (h : V.More m s L) (hL : L ≤ 10) : s ≤ 10 := by
  rcases h with ⟨_, h⟩ | ⟨f, h, _, h2⟩ <;> omega
theorem V.enc_zz_small {m : Int} (h1 : -63 ≤ m) (h2 : m ≤ 63) : (V.enc (V.zz m)).length = 1 := by
  have : (V.zz m).toNat < 128 := by
    rw [V.zz_toNat (by omega) (by omega)]; unfold V.zzN; split <;> omega
  unfold V.enc
  rw [V.encF_small this]; rfl
theorem outUint_val (g base : Nat) (l m : List UInt8) (n : UInt64) (x : Int) (hx : x = (n.toNat : Int)) (hl : l.length ≤ 10000000) (hm : l ++ V.enc n = m) (w : World) (h : OutAt w base g l) :
    Calls Try.prog 12 #[.pointer (some ⟨g, 0, none⟩), .int .u64 x] w fun e w' => e = .returned (.tuple #[]) ∧ OutAt w' base g m ∧ OutTurn g w w' := by
  subst hm hx; exact outUint_any g base l n hl w h

set_option maxHeartbeats 2000000 in
theorem wireSizes_walk (u n shift : Int) (w : World) (hu : (Lit.int .u64 u).wf = true) (hn : (Lit.int .i64 n).wf = true) (hs : (Lit.int .i64 shift).wf = true) :
    Calls Try.prog 3 #[.int .u64 u, .int .i64 n, .int .i64 shift] w fun e W' => e = .returned (.bool true) ∧ Below w.heap.size w W' := by
  obtain ⟨x, rfl⟩ := wf_u64 hu
  have hn := wf_bd hn
  have hs := wf_bd hs
  have hab := arN_bd shift 64 (by omega)
  obtain ⟨kn, hkn⟩ := Int.eq_ofNat_of_zero_le hab.1
  have hk64 : kn < 64 := by omega
  have hwk : IntKind.u64.wrap (kn : Int) = (kn : Int) := by rw [IntKind.wrap_u64]; omega
  have hka := fun W => around_nat shift 64 kn hs.1 hs.2 (by omega) (by omega) hkn W
  have hbb := arN_bd n 127 (by omega)
  obtain ⟨mm, hmm⟩ : ∃ mm, arN n 127 - 63 = mm := ⟨_, rfl⟩
  have hm1 : -63 ≤ mm := by omega
  have hm2 : mm ≤ 63 := by omega
  have hbd := fun W => bound_val n mm hn.1 hn.2 hmm W
  have hkk : (x.toNat : Int) / 2 ^ kn = (((UInt64.ofNat (x.toNat / 2 ^ kn)).toNat : Nat) : Int) := by
    rw [UInt64.toNat_ofNat_of_lt' (show x.toNat / 2 ^ kn < UInt64.size from Nat.lt_of_le_of_lt (Nat.div_le_self _ _) x.toNat_lt), Int.natCast_ediv, Int.natCast_pow]; rfl
  obtain ⟨kk, hk⟩ : ∃ kk, UInt64.ofNat (x.toNat / 2 ^ kn) = kk := ⟨_, rfl⟩
  rw [hk] at hkk
  have hlen := V.enc_len kk
  have hst := V.More.start kk
  obtain ⟨L, hL⟩ : ∃ L, (V.enc kk).length = L := ⟨_, rfl⟩
  rw [hL] at hst hlen
  have HL := Lib.hid hL
  have HST := Lib.hid hst
  have hkl := kk.toNat_lt
  have HKL := Lib.hid hkl
  have hq : IntKind.u64.wrap ((kk.toNat : Int) / 128) = ((kk.toNat / 128 : Nat) : Int) := by rw [IntKind.wrap_u64]; omega
  clear hmm hbb hkn hab hs hn hu hk hL hst hkl
  go_enter Try.func3, Try.ntmps3
  go_wp2_with fail
  refine (hka _).mono ?_
  rintro e w1 ⟨rfl, rfl⟩
  clear hka
  go_wp2_with fail
  go_loopw [8, 9] (fun sv rv wr => ∃ (s m : Nat), sv = .int .i64 (s : Int) ∧ rv = .int .u64 (m : Int) ∧ w = wr ∧ Hid (V.More m s L) ∧ Hid (m < 18446744073709551616)) (fun _ rv _ => (intOf rv).toNat)
  case atStart => exact ⟨1, kk.toNat / 128, rfl, by go_num, rfl, HST.out, by have := HKL.out; show kk.toNat / 128 < 18446744073709551616; omega⟩
  case round =>
    obtain ⟨s, m, rfl, rfl, rfl, hmore, hml⟩ := hrel
    have hs10 := hmore.out.le hlen.2
    by_cases h0 : 0 < m
    · have hml' := hml.out
      go_wp2
      go_roundw
      case rel => exact ⟨s + 1, m / 128, by go_num, by go_num, trivial, hmore.out.step h0, by show m / 128 < 18446744073709551616; omega⟩
      case measure => simp [intOf]; omega
    · obtain rfl : m = 0 := by omega
      have hsL := hmore.out.done
      subst hsL
      go_wp2_with fail
      have ho0 := OutAt.new w
      have hb0 : Below w.heap.size w (w.alloc (.cells #[.slice none 0 0] 26)) := (Below.refl _ _).alloc (Nat.le_refl _) _
      refine (outUint_val w.heap.size w.heap.size [] _ kk _ rfl (by simp) (List.nil_append _) _ ho0).mono ?_
      rintro e w1 ⟨rfl, ho1, ht1⟩
      have hb1 := hb0.trans (ht1.below ho0)
      clear hb0 ho0 ht1
      go_wp2_with fail
      refine (hbd _).mono ?_
      rintro e w2 ⟨rfl, rfl⟩
      clear hbd
      go_wp2_with fail
      have hp0 := OutAt.new w1
      have hb2 : Below w1.heap.size w1 (w1.alloc (.cells #[.slice none 0 0] 26)) := (Below.refl _ _).alloc (Nat.le_refl _) _
      refine (outInt_any w1.heap.size w1.heap.size [] mm (by omega) (by omega) (by simp) _ hp0).mono ?_
      rintro e w3 ⟨rfl, hp1, ht3⟩
      have hb3 := hb2.trans (ht3.below hp0)
      clear hb2 hp0 ht3
      have hneg : RowKit.wrap64 (-mm) = -mm := by unfold RowKit.wrap64; omega
      go_wp2_with fail
      refine (outInt_any w1.heap.size w1.heap.size _ (-mm) (by omega) (by omega) (by have := V.enc_zz_small hm1 hm2; simp [this]) _ hp1).mono ?_
      rintro e w4 ⟨rfl, hp2, ht4⟩
      have hb4 := hb3.trans (ht4.below hp1)
      have ho4 := ho1.later hb4
      have hb5 := blater hb1 (Nat.le_refl _) hb4
      clear hb3 ht4 hp1 ho1 hb1 hb4
      go_wp2_with fail
      refine (done_reads _ _ s _ HL.out (by omega) _ ho4).mono ?_
      rintro e w5 ⟨A5, c5, rfl, hc5, hown5, hd⟩
      have hp5 := hp2.later hd
      have hb6 := blater hb5 (Nat.le_refl _) hd
      clear hb5 hd hp2 ho4 hown5
      go_wp2_with fail
      refine (done_reads _ _ 2 _ (by have h1 := V.enc_zz_small hm1 hm2; have h2 := V.enc_zz_small (m := -mm) (by omega) (by omega); simp [h1, h2]) (by omega) _ hp5).mono ?_
      rintro e w6 ⟨A6, c6, rfl, hc6, hown6, hd⟩
      have hb7 := blater hb6 (Nat.le_refl _) hd
      clear hb6 hd hp5 hown6
      go_wp2_with fail
      refine (lives_any _).mono ?_
      rintro e w7 ⟨rfl, hd⟩
      have hb8 := blater hb7 (Nat.le_refl _) hd
      clear hb7 hd
      go_wp2_with fail
      go_ret
      exact ⟨rfl, hb8⟩
end Go.Proofs.Ytkjlafklhdojmaa
