/- The law WireOwn, walked. -/
import Derived.Test.YtkjlafklhdojmaaWireMid
namespace Go.Proofs.Ytkjlafklhdojmaa
open Go.RowKit
set_option linter.unusedVariables false

theorem own_len {W : World} {b n c : Nat} {e : TypeId} {A : Option Addr} {xs : List Value} (h : W.ownsRow b e 1 (.slice A n c) n xs) : xs.length = n := by have := h.1; omega
theorem own_form {W : World} {b n c i : Nat} {e : TypeId} {A : Option Addr} {xs : List Value} (h : W.ownsRow b e 1 (.slice A n c) n xs) (hi : i < n) : ∃ g, A = some ⟨g, 0, none⟩ ∧ b ≤ g := by
  obtain ⟨g, cap, hv, hb, _⟩ := h.form (by omega)
  injection hv with h1
  exact ⟨g, h1, hb⟩
theorem done_own (g base k : Nat) (l : List UInt8) (hk : l.length = k) (hl : k ≤ 20000000) (w : World) (h : OutAt w base g l) :
    Calls Try.prog 15 #[.pointer (some ⟨g, 0, none⟩)] w fun e w' => ∃ A c, e = .returned (.slice A k c) ∧ k ≤ c ∧ w'.ownsRow w.heap.size 5 1 (.slice A k c) k (bv l) ∧ Below w.heap.size w w' := done_reads g base k l hk hl w h
theorem outBytes_val (m : List UInt8) (g base : Nat) (l : List UInt8) (A : Option Addr) (len cap : Nat) (bs : List UInt8) (hm : l ++ V.enc (UInt64.ofNat len) ++ bs = m) (hbl : bs.length = len) (hs : l.length + 10 + len ≤ 10000000) (w : World) (h : OutAt w base g l) (hr : Reads w w.heap.size 1 A len (bv bs))
    (hfar : ∀ ad, A = some ad → ad.block < base) :
    Calls Try.prog 32 #[.pointer (some ⟨g, 0, none⟩), .slice A len cap] w fun e w' => e = .returned (.tuple #[]) ∧ OutAt w' base g m ∧ OutTurn g w w' := by
  subst hm
  exact outBytes_any g base l A len cap bs hbl hs w h hr (far_below (n := len) h hfar) (fun ad e => by have := hfar ad e; have := h.base_le; omega)
theorem outInts_val (m : List UInt8) (g base : Nat) (l : List UInt8) (A : Option Addr) (len cap : Nat) (is : List Int) (hm : l ++ V.enc (UInt64.ofNat len) ++ V.encI is = m) (hil : is.length = len) (hib : ∀ n ∈ is, -9223372036854775808 ≤ n ∧ n ≤ 9223372036854775807) (hs : l.length + 10 + 10 * len ≤ 10000000) (w : World) (h : OutAt w base g l) (hr : Reads w w.heap.size 1 A len (iv is))
    (hfar : ∀ ad, A = some ad → ad.block < base) :
    Calls Try.prog 33 #[.pointer (some ⟨g, 0, none⟩), .slice A len cap] w fun e w' => e = .returned (.tuple #[]) ∧ OutAt w' base g m ∧ OutTurn g w w' := by
  subst hm
  exact outInts_any g base l A len cap is hil hib hs w h hr (far_below (n := len) h hfar) (fun ad e => by have := hfar ad e; have := h.base_le; omega)
theorem own_lt {W : World} {b n c : Nat} {e : TypeId} {A : Option Addr} {xs : List Value} (h : W.ownsRow b e 1 (.slice A n c) n xs) : ∀ r, (Value.slice A n c).ownBlock = some r → b ≤ r ∧ r < W.heap.size := own_from h
theorem own_addr {W : World} {b n c : Nat} {e : TypeId} {A : Option Addr} {xs : List Value} (h : W.ownsRow b e 1 (.slice A n c) n xs) {B : Nat} (hB : W.heap.size ≤ B) : ∀ ad, A = some ad → ad.block < B := by
  intro ad e
  subst e
  have := (own_from h ad.block rfl).2
  omega
/-- 'append([]byte{}, b...)'. -/
theorem bytes_of_nat (l : List UInt8) : (bv l).length = l.length := by simp [bv]

set_option maxHeartbeats 4000000 in
theorem wireOwn_walk (a : Option Addr) (len cap : Nat) (zs : List Int) (a2 : Option Addr) (len2 cap2 : Nat) (zs2 : List Int) (w : World) (hr : IsRow .u8 w a len cap zs) (hr2 : IsRow .i64 w a2 len2 cap2 zs2) :
    Calls Try.prog 8 #[.slice a len cap, .slice a2 len2 cap2] w fun e W' => e = .returned (.bool true) ∧ Below w.heap.size w W' := by
  obtain ⟨i0, hi, hz0, hz1, hz2⟩ := info_parts infoByte
  obtain ⟨raw, hrl, hlc, hcm, hrd⟩ := isRow_bytes hr
  obtain ⟨ks, hkl, hlc2, hcm2, hrd2, hwf2⟩ := isRow_ints hr2
  obtain ⟨bs, hbs⟩ : ∃ bs, raw.take 30 = bs := ⟨_, rfl⟩
  obtain ⟨is, his⟩ : ∃ is, ks.take 10 = is := ⟨_, rfl⟩
  obtain ⟨k1, hk1⟩ : ∃ k, bs.length = k := ⟨_, rfl⟩
  obtain ⟨k2, hk2⟩ : ∃ k, is.length = k := ⟨_, rfl⟩
  have hk1' : k1 ≤ 30 := by rw [← hk1, ← hbs, List.length_take]; omega
  have hk2' : k2 ≤ 10 := by rw [← hk2, ← his, List.length_take]; omega
  have hib : ∀ n ∈ is, -9223372036854775808 ≤ n ∧ n ≤ 9223372036854775807 := by intro n hn; rw [← his] at hn; exact wf_bd (hwf2 n (List.mem_of_mem_take hn))
  have hfew := few_reads a len cap 30 raw k1 hrl hlc hcm (by omega) (by rw [hbs]; exact hk1) w hrd
  rw [hbs] at hfew
  have hints := fun W (h : Reads W W.heap.size 1 a2 len2 (iv ks)) => ints_reads a2 len2 cap2 10 ks k2 hkl hlc2 hcm2 (by omega) (by rw [his]; exact hk2) W h
  simp only [his] at hints
  obtain ⟨M, hM⟩ : ∃ M, [] ++ V.enc (UInt64.ofNat k1) ++ bs = M := ⟨_, rfl⟩
  obtain ⟨L, hL⟩ : ∃ L, M ++ V.enc (UInt64.ofNat k2) ++ V.encI is = L := ⟨_, rfl⟩
  obtain ⟨kL, hkL⟩ : ∃ k, L.length = k := ⟨_, rfl⟩
  have hMl : M.length ≤ 40 := by rw [← hM]; have := (V.enc_len (UInt64.ofNat k1)).2; simp [hk1]; omega
  have hkL' : kL ≤ 150 := by rw [← hkL, ← hL]; have := (V.enc_len (UInt64.ofNat k2)).2; have := V.encI_len is; simp; omega
  have hrd1 : V.rdList V.next 30 (L, 0) = (bs, (V.enc (UInt64.ofNat k2) ++ V.encI is, 0)) := by
    have := V.rdBytes_enc 30 bs (V.enc (UInt64.ofNat k2) ++ V.encI is) (by rw [hk1]; omega) (by rw [hk1]; omega)
    rw [hk1] at this
    rw [← hL, ← hM, List.nil_append, List.append_assoc (V.enc (UInt64.ofNat k1) ++ bs)]
    exact this
  have hrdi : V.rdList V.rdInt 10 (V.enc (UInt64.ofNat k2) ++ V.encI is, 0) = (is, ([], 0)) := by
    have := V.rdInts_enc 10 is [] hib (by rw [hk2]; omega) (by rw [hk2]; omega)
    rw [hk2] at this
    simpa [V.encI] using this
  obtain ⟨L2, hL2⟩ : ∃ L2, V.enc (UInt64.ofNat k2) ++ V.encI is = L2 := ⟨_, rfl⟩
  have hL2l : L2.length ≤ 1000000 := by rw [← hL2]; have := (V.enc_len (UInt64.ofNat k2)).2; have := V.encI_len is; simp; omega
  rw [hL2] at hrd1 hrdi
  have HM := Lib.hid hM
  have HL := Lib.hid hL
  have HKL := Lib.hid hkL
  have HK1 := Lib.hid hk1
  have HK2 := Lib.hid hk2
  have HIB := Lib.hid hib
  have HR1 := Lib.hid hrd1
  have HRI := Lib.hid hrdi
  have HRD2 := Lib.hid hrd2
  have HL2 := Lib.hid hL2l
  clear hM hL hkL hk1 hk2 hib hrd1 hrdi hL2 hL2l hr hr2 hrl hcm hlc hrd hbs his hwf2 hkl hrd2
  go_enter Try.func8, Try.ntmps8
  go_wp2_with fail
  refine hfew.mono ?_
  rintro e w1 ⟨A1, c1, rfl, hc1, hown1, hb1⟩
  clear hfew
  have hi1 := hints w1 (HRD2.out.later hb1)
  go_wp2_with fail
  refine hi1.mono ?_
  rintro e w2 ⟨A2, c2, rfl, hc2, hown2, hb2⟩
  clear hi1
  have hB2 := blater hb1 (Nat.le_refl _) hb2
  have hs1 := hb1.size
  have hs2 := hb2.size
  have hown1b := own_below hown1 hb2
  go_wp2_with fail
  have ho0 := OutAt.new w2
  have hn0 : Below w2.heap.size w2 (w2.alloc (.cells #[.slice none 0 0] 26)) := (Below.refl _ _).alloc (Nat.le_refl _) _
  refine (outBytes_val M w2.heap.size w2.heap.size [] A1 k1 c1 bs HM.out HK1.out (by simp; omega) _ ho0 ((Reads.of_own hown1b).later hn0) (own_addr hown1b (Nat.le_refl _))).mono ?_
  rintro e w3 ⟨rfl, ho3, ht3⟩
  have hn3 := hn0.trans (ht3.below ho0)
  clear ho0 ht3 hn0
  go_wp2_with fail
  refine (outInts_val L w2.heap.size w2.heap.size M A2 k2 c2 is HL.out HK2.out HIB.out (by omega) _ ho3 ((Reads.of_own hown2).later hn3) (own_addr hown2 (Nat.le_refl _))).mono ?_
  rintro e w4 ⟨rfl, ho4, ht4⟩
  have hn4 := hn3.trans (ht4.below ho3)
  clear hn3 ht4 ho3
  go_wp2_with fail
  refine (done_own _ _ kL _ HKL.out (by omega) _ ho4).mono ?_
  rintro e w5 ⟨A5, c5, rfl, hc5, hown5, hd5⟩
  have hs4 := hn4.size
  have hs5 := hd5.size
  have hown1c := own_below hown1b (blater hn4 (Nat.le_refl _) hd5)
  have hown2c := own_below hown2 (blater hn4 (Nat.le_refl _) hd5)
  have hB5 := (blater hB2 (Nat.le_refl _) hn4).trans (hd5.mono (by omega))
  clear hn4 hown1b hB2
  have hone := bv_one L
  have hrA5 : Reads (w5.alloc (.cells #[] 5)) w5.heap.size 1 A5 kL (bv L) := (Reads.of_own hown5).alloc (Nat.le_refl _) _
  go_wp2_with (at_builtin; refine wpList_append_any _ rfl _ _ 24 rfl w5.heap.size 5 i0 (.int .u8 0) 1 1 Try.underlying24 hi hz0 hz1 hz2 rfl (by decide) _ 0 [] rfl (World.ownsRow_lit w5 #[] 0 (Nat.le_refl _) (by unfold maxLen; omega) rfl) w5.heap.size A5 kL c5 (bv L) rfl hrA5 hone (by unfold maxLen; omega) (by omega) (by simp) ?_; intro v6 w6 hown6 hgrow hat)
  have hgrow : (w5.alloc (.cells #[] 5)).grownBy w6 (some w5.heap.size) := hgrow
  have hd6 : Below w5.heap.size w5 w6 := ((Below.refl _ _).alloc (Nat.le_refl _) _).grown hgrow (by simp) (by simp)
  have hown6 : w6.ownsRow w5.heap.size 5 1 v6 kL (bv L) := by simpa using hown6
  obtain ⟨A6, c6, rfl, hc6, _, hown6⟩ := own_reads hown6
  have hs6 := hd6.size
  have hown1d := own_below hown1c hd6
  have hown2d := own_below hown2c hd6
  have hown5d := own_below hown5 hd6
  have ho6 : Mid w2.heap.size w4 w6 := ((Mid.refl _ _).below hd5 (Nat.le_refl _)).below hd6 (by omega)
  have hB6 := blater hB5 (Nat.le_refl _) hd6
  have hr1 := own_lt hown1
  have hr2 := own_lt hown2
  have hr5 := own_lt hown5
  clear hgrow hat hown1c hown2c hrA5 hone hown1 hB5 hd6 hown5
  go_wp2_with fail
  go_loopw [10] (fun ix wr => ∃ (i : Nat) (xs : List UInt8), i ≤ k1 ∧ ix = .int .i64 (i : Int) ∧ wr.ownsRow w.heap.size 5 1 (.slice A1 k1 c1) k1 (bv xs) ∧ w6.grownBy wr (Value.slice A1 k1 c1).ownBlock) (fun ix _ => k1 - (intOf ix).toNat)
  case atStart => exact ⟨0, _, Nat.zero_le _, rfl, hown1d, only_refl _ _⟩
  case round =>
    obtain ⟨i, xs, hik, rfl, how, hgw⟩ := hrel
    by_cases hlt : i < k1
    · obtain ⟨g', hA, hgb⟩ := own_form how hlt
      subst hA
      have hxl := own_len how
      obtain ⟨x, hx⟩ : ∃ x, xs[i]? = some x := ⟨_, List.getElem?_eq_getElem (by simp [bv] at hxl; omega)⟩
      have hcl := (how.cellAt i (by omega)).trans (bv_getElem _ _ _ hx)
      have hfr := how.frozenAt i
      have hst := (how.stored i (.int .u8 ((7 : UInt8).toNat : Int))).1
      rw [bv_set] at hst
      clear hx hxl how
      have hi1 : (0 : Int) ≤ (i : Int) := by omega
      have hi2 : (i : Int) < (k1 : Int) := by omega
      go_wp2_with fail
      go_roundw
      case rel => exact ⟨i + 1, xs.set i 7, by omega, by go_num, hst, only_trans hgw (set1_grown wr ⟨g', i, none⟩ _)⟩
      case measure => simp [intOf]; omega
    · obtain ⟨w7, rfl⟩ : ∃ x, x = wr := ⟨_, rfl⟩
      have hgo : w6.grownBy w7 (Value.slice A1 k1 c1).ownBlock := hgw
      clear hgw how
      have hB7 := hB6.trans (only_own hgo (fun r h => (hr1 r h).1) hB6.size)
      have hown2e := own_mid hown2d ((Mid.refl _ _).only hgo (fun r h => .inl (hr1 r h).2))
      have hown5e := own_mid hown5d ((Mid.refl _ _).only hgo (fun r h => .inl (by have := (hr1 r h).2; omega)))
      have hown6e := own_mid hown6 ((Mid.refl _ _).only hgo (fun r h => .inl (by have := (hr1 r h).2; omega)))
      have ho7 := ho6.only hgo (fun r h => .inl (by have := (hr1 r h).2; omega))
      clear hB6 hown2d hown5d hown6 ho6 hgo hown1d hr1
      go_wp2_with fail
      go_loopw [11] (fun ix wr => ∃ (i : Nat) (xs : List Int), i ≤ k2 ∧ ix = .int .i64 (i : Int) ∧ wr.ownsRow w1.heap.size 3 1 (.slice A2 k2 c2) k2 (iv xs) ∧ w7.grownBy wr (Value.slice A2 k2 c2).ownBlock) (fun ix _ => k2 - (intOf ix).toNat)
      case atStart => exact ⟨0, _, Nat.zero_le _, rfl, hown2e, only_refl _ _⟩
      case round =>
        obtain ⟨i, xs, hik, rfl, how, hgw⟩ := hrel
        by_cases hlt : i < k2
        · obtain ⟨g', hA, hgb⟩ := own_form how hlt
          subst hA
          have hxl := own_len how
          obtain ⟨x, hx⟩ : ∃ x, xs[i]? = some x := ⟨_, List.getElem?_eq_getElem (by simp [iv] at hxl; omega)⟩
          have hcl := (how.cellAt i (by omega)).trans (iv_getElem _ _ _ hx)
          have hfr := how.frozenAt i
          have hst := (how.stored i (.int .i64 7)).1
          rw [iv_set] at hst
          clear hx hxl how
          have hi1 : (0 : Int) ≤ (i : Int) := by omega
          have hi2 : (i : Int) < (k2 : Int) := by omega
          go_wp2_with fail
          go_roundw
          case rel => exact ⟨i + 1, xs.set i 7, by omega, by go_num, hst, only_trans hgw (set1_grown wr ⟨g', i, none⟩ _)⟩
          case measure => simp [intOf]; omega
        · obtain ⟨w8, rfl⟩ : ∃ x, x = wr := ⟨_, rfl⟩
          have hgo : w7.grownBy w8 (Value.slice A2 k2 c2).ownBlock := hgw
          clear hgw how
          have hB8 := hB7.trans (only_own hgo (fun r h => by have := (hr2 r h).1; omega) hB7.size)
          have hown5f := own_mid hown5e ((Mid.refl _ _).only hgo (fun r h => .inl (by have := (hr2 r h).2; omega)))
          have hown6f := own_mid hown6e ((Mid.refl _ _).only hgo (fun r h => .inl (by have := (hr2 r h).2; omega)))
          have ho8 := ho7.only hgo (fun r h => .inl (hr2 r h).2)
          clear hB7 hown5e hown6e ho7 hgo hown2e hr2 hown2
          go_wp2_with fail
          go_loopw [12] (fun ix wr => ∃ (i : Nat) (xs : List UInt8), i ≤ kL ∧ ix = .int .i64 (i : Int) ∧ wr.ownsRow w4.heap.size 5 1 (.slice A5 kL c5) kL (bv xs) ∧ w8.grownBy wr (Value.slice A5 kL c5).ownBlock) (fun ix _ => kL - (intOf ix).toNat)
          case atStart => exact ⟨0, _, Nat.zero_le _, rfl, hown5f, only_refl _ _⟩
          case round =>
            obtain ⟨i, xs, hik, rfl, how, hgw⟩ := hrel
            by_cases hlt : i < kL
            · obtain ⟨g', hA, hgb⟩ := own_form how hlt
              subst hA
              have hxl := own_len how
              obtain ⟨x, hx⟩ : ∃ x, xs[i]? = some x := ⟨_, List.getElem?_eq_getElem (by simp [bv] at hxl; omega)⟩
              have hcl := (how.cellAt i (by omega)).trans (bv_getElem _ _ _ hx)
              have hfr := how.frozenAt i
              have hst := (how.stored i (.int .u8 ((9 : UInt8).toNat : Int))).1
              rw [bv_set] at hst
              clear hx hxl how
              have hi1 : (0 : Int) ≤ (i : Int) := by omega
              have hi2 : (i : Int) < (kL : Int) := by omega
              go_wp2_with fail
              go_roundw
              case rel => exact ⟨i + 1, xs.set i 9, by omega, by go_num, hst, only_trans hgw (set1_grown wr ⟨g', i, none⟩ _)⟩
              case measure => simp [intOf]; omega
            · obtain ⟨w9, rfl⟩ : ∃ x, x = wr := ⟨_, rfl⟩
              have hgo : w8.grownBy w9 (Value.slice A5 kL c5).ownBlock := hgw
              clear hgw how
              have hB9 := hB8.trans (only_own hgo (fun r h => by have := (hr5 r h).1; omega) hB8.size)
              have hown6g := own_mid hown6f ((Mid.refl _ _).only hgo (fun r h => .inl (hr5 r h).2))
              have ho9 := out_mid ho4 (ho8.only hgo (fun r h => .inr (hr5 r h).1))
              clear hB8 hown6f ho8 hgo hown5f hr5
              go_wp2_with fail
              refine (done_own _ _ kL _ HKL.out (by omega) _ ho9).mono ?_
              rintro e w10 ⟨A10, c10, rfl, hc10, hown10, hd10⟩
              have hB10 := blater hB9 (Nat.le_refl _) hd10
              have hown6h := own_below hown6g hd10
              clear hB9 hown6g ho9
              go_wp2_with fail
              refine (sameBytes_b true A10 A6 kL c10 kL c6 L L HKL.out HKL.out (by simp) (by omega) (by omega) _ (Reads.of_own hown10) (Reads.of_own hown6h)).mono ?_
              rintro e w11 ⟨rfl, hd11⟩
              have hB11 := blater hB10 (Nat.le_refl _) hd11
              have hown6i := own_below hown6h hd11
              clear hB10 hown6h hown10
              have hone := bv_one L
              have hrA6 : Reads (w11.alloc (.cells #[] 5)) w11.heap.size 1 A6 kL (bv L) := (Reads.of_own hown6i).alloc (Nat.le_refl _) _
              go_wp2_with (at_builtin; refine wpList_append_any _ rfl _ _ 24 rfl w11.heap.size 5 i0 (.int .u8 0) 1 1 Try.underlying24 hi hz0 hz1 hz2 rfl (by decide) _ 0 [] rfl (World.ownsRow_lit w11 #[] 0 (Nat.le_refl _) (by unfold maxLen; omega) rfl) w11.heap.size A6 kL c6 (bv L) rfl hrA6 hone (by unfold maxLen; omega) (by omega) (by simp) ?_; intro v12 w12 hown12 hgrow hat)
              have hgrow : (w11.alloc (.cells #[] 5)).grownBy w12 (some w11.heap.size) := hgrow
              have hd12 : Below w11.heap.size w11 w12 := ((Below.refl _ _).alloc (Nat.le_refl _) _).grown hgrow (by simp) (by simp)
              have hown12 : w12.ownsRow w11.heap.size 5 1 v12 kL (bv L) := by simpa using hown12
              obtain ⟨A12, c12, rfl, hc12, _, hown12⟩ := own_reads hown12
              have hB12 := blater hB11 (Nat.le_refl _) hd12
              have hr12 := own_lt hown12
              have hs11 := hB11.size
              have hs12 := hd12.size
              clear hB11 hd12 hgrow hat hrA6 hone hown6i
              go_wp2_with fail
              refine (newIn_mid A12 kL c12 L HKL.out (by omega) _ (Reads.of_own hown12)).mono ?_
              rintro e w13 ⟨g, rfl, hg, hg2, hin13, hd13⟩
              have hB13 := blater hB12 (Nat.le_refl _) hd13
              have hown13 := own_below hown12 hd13
              have hgw : w.heap.size ≤ g := by omega
              clear hB12 hown12 hd13
              go_wp2_with fail
              go_loopw [15] (fun ix wr => ∃ (i : Nat) (xs : List UInt8), i ≤ kL ∧ ix = .int .i64 (i : Int) ∧ wr.ownsRow w11.heap.size 5 1 (.slice A12 kL c12) kL (bv xs) ∧ w13.grownBy wr (Value.slice A12 kL c12).ownBlock) (fun ix _ => kL - (intOf ix).toNat)
              case atStart => exact ⟨0, _, Nat.zero_le _, rfl, hown13, only_refl _ _⟩
              case round =>
                obtain ⟨i, xs, hik, rfl, how, hgw⟩ := hrel
                by_cases hlt : i < kL
                · obtain ⟨g', hA, hgb⟩ := own_form how hlt
                  subst hA
                  have hxl := own_len how
                  obtain ⟨x, hx⟩ : ∃ x, xs[i]? = some x := ⟨_, List.getElem?_eq_getElem (by simp [bv] at hxl; omega)⟩
                  have hcl := (how.cellAt i (by omega)).trans (bv_getElem _ _ _ hx)
                  have hfr := how.frozenAt i
                  have hst := (how.stored i (.int .u8 ((255 : UInt8).toNat : Int))).1
                  rw [bv_set] at hst
                  clear hx hxl how
                  have hi1 : (0 : Int) ≤ (i : Int) := by omega
                  have hi2 : (i : Int) < (kL : Int) := by omega
                  go_wp2_with fail
                  go_roundw
                  case rel => exact ⟨i + 1, xs.set i 255, by omega, by go_num, hst, only_trans hgw (set1_grown wr ⟨g', i, none⟩ _)⟩
                  case measure => simp [intOf]; omega
                · obtain ⟨w14, rfl⟩ : ∃ x, x = wr := ⟨_, rfl⟩
                  have hgo : w13.grownBy w14 (Value.slice A12 kL c12).ownBlock := hgw
                  clear hgw how
                  have hB14 := hB13.trans (only_own hgo (fun r h => by have := (hr12 r h).1; omega) hB13.size)
                  have hin14 := hin13 w14 ((Mid.refl _ _).only hgo (fun r h => .inl (hr12 r h).2))
                  clear hB13 hin13 hgo hown13 hr12
                  go_wp2_with fail
                  refine (inBytes_val bs k1 _ g 30 (by omega) (by omega) _ (by show L.length ≤ _; rw [HKL.out]; omega) HR1.out HK1.out _ hin14).mono ?_
                  rintro e w15 ⟨A15, c15, rfl, hc15, hown15, hin15, hg15⟩
                  have hB15 := only_new hB14 hg15 hB14.size hgw
                  have hr15 := own_lt hown15
                  have hlt14 := hin14.lt
                  have hs14 := hB14.size
                  clear hB14 hin14 hg15
                  go_wp2_with fail
                  go_loopw [17] (fun ix wr => ∃ (i : Nat) (xs : List UInt8), i ≤ k1 ∧ ix = .int .i64 (i : Int) ∧ wr.ownsRow w14.heap.size 5 1 (.slice A15 k1 c15) k1 (bv xs) ∧ w15.grownBy wr (Value.slice A15 k1 c15).ownBlock) (fun ix _ => k1 - (intOf ix).toNat)
                  case atStart => exact ⟨0, _, Nat.zero_le _, rfl, hown15, only_refl _ _⟩
                  case round =>
                    obtain ⟨i, xs, hik, rfl, how, hgw⟩ := hrel
                    by_cases hlt : i < k1
                    · obtain ⟨g', hA, hgb⟩ := own_form how hlt
                      subst hA
                      have hxl := own_len how
                      obtain ⟨x, hx⟩ : ∃ x, xs[i]? = some x := ⟨_, List.getElem?_eq_getElem (by simp [bv] at hxl; omega)⟩
                      have hcl := (how.cellAt i (by omega)).trans (bv_getElem _ _ _ hx)
                      have hfr := how.frozenAt i
                      have hst := (how.stored i (.int .u8 ((1 : UInt8).toNat : Int))).1
                      rw [bv_set] at hst
                      clear hx hxl how
                      have hi1 : (0 : Int) ≤ (i : Int) := by omega
                      have hi2 : (i : Int) < (k1 : Int) := by omega
                      go_wp2_with fail
                      go_roundw
                      case rel => exact ⟨i + 1, xs.set i 1, by omega, by go_num, hst, only_trans hgw (set1_grown wr ⟨g', i, none⟩ _)⟩
                      case measure => simp [intOf]; omega
                    · obtain ⟨w16, rfl⟩ : ∃ x, x = wr := ⟨_, rfl⟩
                      have hgo : w15.grownBy w16 (Value.slice A15 k1 c15).ownBlock := hgw
                      clear hgw how
                      have hB16 := hB15.trans (only_own hgo (fun r h => by have := (hr15 r h).1; omega) hB15.size)
                      have hin16 := hin15.kept hgo (fun r h => by have := (hr15 r h).1; omega)
                      clear hB15 hin15 hgo hown15 hr15
                      go_wp2_with fail
                      refine (inInts_val is k2 _ g 10 (by omega) (by omega) _ HL2.out HRI.out HK2.out _ hin16).mono ?_
                      rintro e w17 ⟨A17, c17, rfl, hc17, hown17, hin17, hg17⟩
                      have hB17 := only_new hB16 hg17 hB16.size hgw
                      clear hB16 hin16 hg17
                      have hi2 := hints w17 (HRD2.out.later hB17)
                      go_wp2_with fail
                      refine hi2.mono ?_
                      rintro e w18 ⟨A18, c18, rfl, hc18, hown18, hd18⟩
                      have hB18 := blater hB17 (Nat.le_refl _) hd18
                      have hin18 := hin17.below hd18
                      have hown17b := own_below hown17 hd18
                      clear hB17 hin17 hown17 hd18 hi2
                      go_wp2_with fail
                      refine (sameInts_b true A17 A18 k2 c17 k2 c18 is is HK2.out HK2.out (by simp) (by omega) (by omega) _ (Reads.of_own hown17b) (Reads.of_own hown18)).mono ?_
                      rintro e w19 ⟨rfl, hd19⟩
                      have hB19 := blater hB18 (Nat.le_refl _) hd19
                      have hin19 := hin18.below hd19
                      clear hB18 hin18 hown17b hown18 hd19
                      go_wp2_with fail
                      refine (inEnd_val 0 g _ (show V.fin ([], 0) = 0 by decide) _ hin19).mono ?_
                      rintro e w20 ⟨rfl, rfl⟩
                      go_wp2_with fail
                      refine (lives_any _).mono ?_
                      rintro e w21 ⟨rfl, hd21⟩
                      have hB21 := blater hB19 (Nat.le_refl _) hd21
                      clear hB19 hd21
                      go_wp2_with fail
                      go_ret
                      exact ⟨rfl, hB21⟩
end Go.Proofs.Ytkjlafklhdojmaa
