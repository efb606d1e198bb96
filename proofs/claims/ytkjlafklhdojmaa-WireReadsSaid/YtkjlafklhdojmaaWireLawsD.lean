/- The law WireReads, walked. -/
import Derived.Test.YtkjlafklhdojmaaWireRin3
import Derived.Test.YtkjlafklhdojmaaWireCan
import Derived.Deep.CutRange
import Derived.Deep.RegionHeld3
namespace Go.Proofs.Ytkjlafklhdojmaa
open Go.RowKit
set_option linter.unusedVariables false

theorem V.eqv_fin {s s' : V.St} (h : V.Eqv s s') : V.fin s = V.fin s' := by
  by_cases h0 : s.2 = 0
  · rw [h.eq h0]
  · have h0' : s'.2 ≠ 0 := by rw [← h.1]; exact h0
    unfold V.fin
    rw [if_neg (fun h => h0 h.1), if_neg (fun h => h0' h.1), h.1]
theorem rEnd_val (f : Int) (B g : Nat) (s : V.St) (hf : V.fin s = f) (w : World) (h : RIn w B g s) :
    Calls Try.prog 26 #[.pointer (some ⟨g, 0, none⟩)] w fun e w' => e = .returned (.int .i64 f) ∧ w = w' := by
  rw [← hf]; exact rEnd_any B g s w h
theorem IsValB.toVal {W W' : World} {b g : Nat} {v : Value} {x : Vl} (h : IsValB W b v x) (hg : W.grownBy W' (some g)) (hgb : g < b) : IsVal W' W'.heap.size v x := by
  obtain ⟨A, c, A', c', h0, h1, h2, h3, h4⟩ := h
  exact ⟨A, c, A', c', h0, (reads_grown h1 hg (Nat.le_refl _) (fun ad e => by have := (h3 ad e).1; intro e2; injection e2 with e2; omega)).more hg.size, (reads_grown h2 hg (Nat.le_refl _) (fun ad e => by have := (h4 ad e).1; intro e2; injection e2 with e2; omega)).more hg.size⟩
theorem IsValR.toVal {W : World} {B b : Nat} {v : Value} {x : Vl} (h : IsValR W B b v x) (hB : B ≤ W.heap.size) : IsVal W W.heap.size v x := by
  obtain ⟨A, c, A', c', h0, h1, h2, _⟩ := h
  exact ⟨A, c, A', c', h0, h1.more hB, h2⟩
theorem read_x (g : Nat) (kind most : Int) (hm1 : -9223372036854775808 ≤ most) (hm2 : most ≤ 9223372036854775807) (s : V.St) (hsl : s.1.length ≤ 1000000) (x : Vl) (s2 : V.St) (hx : V.read kind most s = (x, s2)) (w : World) (h : InAt 75 w g s) :
    Calls Try.prog 22 #[.pointer (some ⟨g, 0, none⟩), .int .i64 kind, .int .i64 most] w fun e w' =>
      ∃ v, e = .returned v ∧ IsValB w' w.heap.size v x ∧ InAt 75 w' g s2 ∧ w.grownBy w' (some g) := by
  have := read_row g kind most hm1 hm2 s hsl w h
  rw [hx] at this
  exact this
theorem rRead_x (B g : Nat) (kind most : Int) (hm1 : -9223372036854775808 ≤ most) (hm2 : most ≤ 9223372036854775807) (s : V.St) (hsl : s.1.length ≤ 1000000) (x : Vl) (s2 : V.St) (hx : V.rRead kind most s = (x, s2)) (w : World) (h : RIn w B g s) :
    Calls Try.prog 23 #[.pointer (some ⟨g, 0, none⟩), .int .i64 kind, .int .i64 most] w fun e w' =>
      ∃ v, e = .returned v ∧ IsVal w' w'.heap.size v x ∧ RIn w' B g s2 ∧ w.grownBy w' (some g) := by
  have := rRead_any B g kind most hm1 hm2 s hsl w h
  rw [hx] at this
  refine this.mono ?_
  rintro e w' ⟨v, h1, h2, h3, h4⟩
  exact ⟨v, h1, h2.toVal (by have := h3.lt; have := h3.1; omega), h3, h4⟩

/-- How long what a read answers is. -/
theorem V.rdN_len {α : Type} (f : V.St → α × V.St) (hf : V.Takes f) : ∀ (k : Nat) (s : V.St), (V.rdN f k s).1.length ≤ s.1.length + 1
  | 0, s => by simp [V.rdN]
  | k + 1, s => by
    unfold V.rdN
    split
    · rename_i h
      have ih := V.rdN_len f hf k (f s).2
      simp only [List.length_cons]
      rcases hf s h with h1 | ⟨h1, h2⟩
      · omega
      · rw [V.rdN_stop f k h1]; simp
    · simp
theorem V.read_len (kind most : Int) (s : V.St) : (V.read kind most s).1.b.length ≤ s.1.length + 1 ∧ (V.read kind most s).1.l.length ≤ s.1.length + 1 := by
  have h0 := V.lim_le s most
  have h1 := V.rdN_len V.next V.next_takes (V.rdUint s).1.toNat (V.lim s most)
  have h2 := V.rdN_len V.rdInt V.rdInt_takes (V.rdUint s).1.toNat (V.lim s most)
  unfold V.read
  split
  · simp
  · split
    · simp
    · split
      · refine ⟨?_, by simp⟩
        show (V.rdList V.next most s).1.length ≤ _
        unfold V.rdList
        split
        · omega
        · simp
      · refine ⟨by simp, ?_⟩
        show (V.rdList V.rdInt most s).1.length ≤ _
        unfold V.rdList
        split
        · omega
        · simp

set_option maxRecDepth 10000 in
set_option maxHeartbeats 8000000 in
theorem wireReads_walk (a : Option Addr) (len cap : Nat) (zs : List Int) (a2 : Option Addr) (len2 cap2 : Nat) (zs2 : List Int) (at' c : Int) (a3 : Option Addr) (len3 cap3 : Nat) (zs3 : List Int) (most : Int) (w : World) (hr : IsRow .u8 w a len cap zs) (hr2 : IsRow .i64 w a2 len2 cap2 zs2) (hat' : (Lit.int .i64 at').wf = true) (hc : (Lit.int .u8 c).wf = true) (hr3 : IsRow .i64 w a3 len3 cap3 zs3) (hmost : (Lit.int .i64 most).wf = true) :
    Calls Try.prog 4 #[.slice a len cap, .slice a2 len2 cap2, .int .i64 at', .int .u8 c, .slice a3 len3 cap3, .int .i64 most] w fun e W' => e = .returned (.bool true) ∧ Below w.heap.size w W' := by
  obtain ⟨raw, hrl, hlc, hcm, hrd⟩ := isRow_bytes hr
  obtain ⟨ls, hll, hlc2, hcm2, hrd2, hwf2⟩ := isRow_ints hr2
  obtain ⟨ks, hkl, hlc3, hcm3, hrd3, hwf3⟩ := isRow_ints hr3
  obtain ⟨cc, rfl⟩ := wf_u8 hc
  have HAT := Lib.hid (wf_bd hat')
  have HMO := Lib.hid (wf_bd hmost)
  have hvals := vals_reads a2 len2 cap2 ls hll (by omega) (fun n hn => wf_bd (hwf2 n hn)) w hrd2
  obtain ⟨rb, hrb⟩ : ∃ x, raw.take 60 = x := ⟨_, rfl⟩
  obtain ⟨kr, hkr⟩ : ∃ k, rb.length = k := ⟨_, rfl⟩
  have hkr' : kr ≤ 60 := by rw [← hkr, ← hrb, List.length_take]; omega
  have hfew := fun W (h : Reads W W.heap.size 1 a len (bv raw)) => few_reads a len cap 60 raw kr hrl hlc hcm (by omega) (by rw [hrb]; exact hkr) W h
  simp only [hrb] at hfew
  have HKR := Lib.hid hkr
  have HWF3 := Lib.hid (show ∀ n ∈ ks, inr n from fun n hn => wf_bd (hwf3 n hn))
  have HRD := Lib.hid hrd
  have HRD3 := Lib.hid hrd3
  have HFEW := Lib.hid hfew
  clear hrl hlc hcm hll hlc2 hcm2 hwf2 hkl hlc3 hwf3 hr hr2 hr3 hc hat' hmost hrb hkr hrd hrd2 hrd3 hfew
  go_enter Try.func4, Try.ntmps4
  go_wp2_with fail
  refine hvals.mono ?_
  rintro e w1 ⟨A1, n1, c1, vs, rfl, hvl, hc1, hv1, hn8, hok, hb1⟩
  clear hvals
  have HVL := Lib.hid hvl
  have HOK := Lib.hid hok
  obtain ⟨bs, hbs⟩ : ∃ bs, V.encVs (vs.take n1) = bs := ⟨_, rfl⟩
  obtain ⟨kb, hkb⟩ : ∃ k, bs.length = k := ⟨_, rfl⟩
  have hkb2 : kb ≤ 1000 := by
    have hok2 : ∀ x ∈ vs.take n1, VOk 10 x := fun x hx => hok x (List.mem_of_mem_take hx)
    have h1 := V.encVs_len hok2
    rw [hbs, hkb] at h1
    have h3 : (vs.take n1).length * (10 + 10 * 10) ≤ 8 * (10 + 10 * 10) := Nat.mul_le_mul (by rw [List.length_take]; omega) (by omega)
    omega
  have HBS := Lib.hid hbs
  have HKB := Lib.hid hkb
  clear hvl hok hbs hkb
  go_wp2_with fail
  refine (refEncode_reads bs kb _ 10 n1 n1 c1 A1 vs HBS.out HKB.out HVL.out (Nat.le_refl _) (by omega) HOK.out (by omega) _ hv1).mono ?_
  rintro e w2 ⟨A2, c2, rfl, hc2, hown2, hd2⟩
  have hb2 := blater hb1 (Nat.le_refl _) hd2
  have hs1 := hb1.size
  clear hb1 hv1
  go_upto_if 26 with (fail)
  go_cut [] from 24 to 33 (fun wx => ∃ bs1 : List UInt8, Hid (bs1.length = kb) ∧ wx.ownsRow w1.heap.size 5 1 (.slice A2 kb c2) kb (bv bs1) ∧ Below w.heap.size w wx)
  case first =>
    by_cases hk0 : kb = 0
    · go_wp2_with fail
      go_meet
      exact ⟨bs, HKB, hown2, hb2⟩
    · have hk1 : (1 : Int) ≤ (kb : Int) := by omega
      have hab := arN_bd at' kb hk1
      obtain ⟨kn, hkn⟩ := Int.eq_ofNat_of_zero_le hab.1
      have hknl : kn < kb := by omega
      have hca := fun W => around_nat at' kb kn HAT.out.1 HAT.out.2 hk1 (by omega) hkn W
      have hkpos : (0 : Int) < (kb : Int) := by omega
      clear hab hkn hk0
      go_wp2_with fail
      refine (hca _).mono ?_
      rintro e w3 ⟨rfl, rfl⟩
      clear hca
      obtain ⟨g2, rfl, hg2⟩ := own_form hown2 hknl
      obtain ⟨y, hy⟩ : ∃ y, bs[kn]? = some y := ⟨_, List.getElem?_eq_getElem (by rw [HKB.out]; exact hknl)⟩
      have hcl := (hown2.cellAt kn (by omega)).trans (bv_getElem _ _ _ hy)
      have hfr := hown2.frozenAt kn
      have hst := (hown2.stored kn (.int .u8 (cc.toNat : Int))).1
      rw [bv_set] at hst
      have hz1' : (0 : Int) ≤ (kn : Int) := by omega
      have hz2' : (kn : Int) < (kb : Int) := by omega
      clear hy
      go_wp2_with fail
      go_meet
      exact ⟨bs.set kn cc, by show (bs.set kn cc).length = kb; rw [List.length_set]; exact HKB.out, hst, hb2.setCell (by show w.heap.size ≤ g2; omega) _⟩
  case rest =>
    clear hb2 hd2 hown2
    obtain ⟨bs1, hbs1, hown3, hb3⟩ := hcut
    obtain ⟨w3, rfl⟩ : ∃ x, x = wc := ⟨_, rfl⟩
    go_wp2_with fail
    refine (HFEW.out _ (HRD.out.later hb3)).mono ?_
    rintro e w4 ⟨A7, c7, rfl, hc7, hown7, hd7⟩
    have hb4 := blater hb3 (Nat.le_refl _) hd7
    have hown4 := own_below hown3 hd7
    have hcap4 := own_cap hown4
    have hcap7 := own_cap hown7
    clear hb3 hd7 hown3
    go_wp2_with fail
    obtain ⟨w5, hw5⟩ : ∃ x, w4.alloc (.cells #[.slice A7 kr c7, .slice A2 kb c2] 24) = x := ⟨_, rfl⟩
    have hd5 : Below w4.heap.size w4 w5 := by rw [← hw5]; exact (Below.refl _ _).alloc (Nat.le_refl _) _
    have hs5 : w5.heap.size = w4.heap.size + 1 := by rw [← hw5]; simp
    have hblk : Two w5 w4.heap.size 24 (.slice A7 kr c7) (.slice A2 kb c2) := by rw [← hw5]; exact Two.new _ _ _ _
    have hrow : ∀ i, i < 2 → ∃ (A : Option Addr) (n cp : Nat) (bx : List UInt8), w5.cell? ⟨w4.heap.size, i, none⟩ = some (.slice A n cp) ∧ bx.length = n ∧ n ≤ cp ∧ cp ≤ 9223372036854775807 ∧ n ≤ 1000 ∧ Reads w5 w5.heap.size 1 A n (bv bx) := by
      intro i hi
      match i, hi with
      | 0, _ => exact ⟨A7, kr, c7, rb, hblk.cell0, HKR.out, hc7, hcap7, by omega, (Reads.of_own hown7).later hd5⟩
      | 1, _ => exact ⟨A2, kb, c2, bs1, hblk.cell1, hbs1.out, hc2, hcap4, by omega, (Reads.of_own hown4).later hd5⟩
    have hb5 := blater hb4 (Nat.le_refl _) hd5
    have HROW := Lib.hid hrow
    have HS5 := Lib.hid hs5
    rw [hw5]
    clear hw5 hrow hblk hs5 hd5 hown7 hown4 hb4 hc2 hc7 hcap4 hcap7 hkb2 hs1
    go_loopw [15] (fun ix wr => ∃ (i : Nat), i ≤ 2 ∧ ix = .int .i64 (i : Int) ∧ Below w5.heap.size w5 wr) (fun ix _ => 2 - (intOf ix).toNat)
    case atStart => exact ⟨0, Nat.zero_le _, rfl, Below.refl _ _⟩
    case round =>
      obtain ⟨i, hi2, rfl, hB⟩ := hrel
      by_cases hlt : i < 2
      · obtain ⟨A, n, cp, bx, hcell, hbx, hncp, hcp, hn1000, hrdx⟩ := HROW.out i hlt
        have hcell := (hB.cell (p := ⟨w4.heap.size, i, none⟩) (by show w4.heap.size < _; rw [HS5.out]; omega)).trans hcell
        have HBX := Lib.hid hbx
        have hrd9 := hrdx.below hB
        have hsz := hB.size
        clear hbx hrdx
        have hi1' : (0 : Int) ≤ (i : Int) := by omega
        have hi2' : (i : Int) < 2 := by omega
        obtain ⟨w6, rfl⟩ : ∃ x, x = wr := ⟨_, rfl⟩
        go_wp2_with fail
        refine (newIn_any A n cp bx HBX.out (by omega) _ (hrd9.more hsz)).mono ?_
        rintro e w7 ⟨g, rfl, hg, hin7, hd7⟩
        have hcell7 := (hd7.cell (p := ⟨w4.heap.size, i, none⟩) (by show w4.heap.size < _; have := HS5.out; omega)).trans hcell
        have hgl := hin7.lt
        have hB7 := blater hB (Nat.le_refl _) hd7
        have hrd7 := hrd9.below (hd7.mono hsz)
        clear hcell hrd9
        go_wp2_with fail
        obtain ⟨w8, hw8⟩ : ∃ x, w7.alloc (.cells #[.slice A n cp, .int .i64 0] 43) = x := ⟨_, rfl⟩
        have hd8 : Below w7.heap.size w7 w8 := by rw [← hw8]; exact (Below.refl _ _).alloc (Nat.le_refl _) _
        have hin8 := hin7.below hd8
        have hri8 : RIn w8 w5.heap.size w7.heap.size (bx, 0) := by
          refine ⟨by have := hd7.size; omega, A, cp, ?_, by show bx.length ≤ cp; rw [HBX.out]; exact hncp, hcp, ?_⟩
          · rw [← hw8, show (bx, (0 : Int)).1.length = n from HBX.out]; exact Two.new _ _ _ _
          · rw [show (bx, (0 : Int)).1.length = n from HBX.out]; exact hrd7.below (hd8.mono (by have := hd7.size; omega))
        have hB8 := blater hB7 (Nat.le_refl _) hd8
        have hgw : w5.heap.size ≤ g := by omega
        obtain ⟨g2, hg2⟩ : ∃ x, w7.heap.size = x := ⟨_, rfl⟩
        have hgg : g < g2 := by omega
        have hg2w : w5.heap.size ≤ g2 := by have := hd7.size; omega
        rw [hw8]
        rw [hg2] at hri8 ⊢
        clear hw8 hd8 hB7 hrd7 hcell7 hin7 hd7 hB hg2 hg hgl hsz
        go_wp2_with fail
        go_loopw [18] (fun ix wr => ∃ (k : Nat) (s s' : V.St), k ≤ len3 ∧ k ≤ 10 ∧ ix = .int .i64 (k : Int) ∧ InAt 75 wr g s ∧ RIn wr w5.heap.size g2 s' ∧ Hid (V.Eqv s s' ∧ s.1.length ≤ 1000 ∧ s'.1.length ≤ 1000) ∧ Below w5.heap.size w5 wr) (fun ix _ => 10 - (intOf ix).toNat)
        case atStart => exact ⟨0, (bx, 0), (bx, 0), Nat.zero_le _, Nat.zero_le _, rfl, hin8, hri8, ⟨V.Eqv.refl _, by show bx.length ≤ 1000; rw [HBX.out]; exact hn1000, by show bx.length ≤ 1000; rw [HBX.out]; exact hn1000⟩, hB8⟩
        case round =>
          obtain ⟨k, s, s', hk1, hk10, rfl, hin, hri, hst, hB⟩ := hrel
          clear hin8 hri8 hB8
          by_cases hlk : k < len3 ∧ k < 10
          · obtain ⟨hk3, hkt⟩ := hlk
            obtain ⟨ad, u, rfl, _, hu, hcell⟩ := (HRD3.out.below (blater hb5 (Nat.le_refl _) hB)).at_ hk3
            obtain ⟨x, hx, rfl⟩ := iv_at hu
            have hxb := HWF3.out x (List.mem_of_getElem? hx)
            have hak := arN_bd x 4 (by omega)
            have hca := fun W => around_any x 4 hxb.1 hxb.2 (by omega) (by omega) W
            have hq1 : -9223372036854775808 ≤ x.tdiv 4 ∧ x.tdiv 4 ≤ 9223372036854775807 := by
              have h1 := hxb.1
              have h2 := hxb.2
              rcases Int.le_total 0 x with h | h
              · rw [Int.tdiv_eq_ediv_of_nonneg h]; omega
              · have e : x.tdiv 4 = -((-x).tdiv 4) := by rw [Int.neg_tdiv, Int.neg_neg]
                rw [e, Int.tdiv_eq_ediv_of_nonneg (by omega)]; omega
            have hal := arN_bd (x.tdiv 4) 40 (by omega)
            have hcl := fun W => around_any (x.tdiv 4) 40 hq1.1 hq1.2 (by omega) (by omega) W
            obtain ⟨kk, hkk⟩ : ∃ kk, arN x 4 = kk := ⟨_, rfl⟩
            obtain ⟨ll, hll⟩ : ∃ ll, arN (x.tdiv 4) 40 = ll := ⟨_, rfl⟩
            simp only [hkk] at hak hca
            simp only [hll] at hal hcl
            have hx1 := hxb.1
            have hx2 := hxb.2
            clear hkk hll hx hu hq1 hxb
            have hi1' : (0 : Int) ≤ (k : Int) := by omega
            have hi2' : (k : Int) < (len3 : Int) := by omega
            have hi3' : (k : Int) < 10 := by omega
            obtain ⟨w9, rfl⟩ : ∃ x, x = wr := ⟨_, rfl⟩
            go_wp2_with fail
            refine (hca _).mono ?_
            rintro e wz ⟨rfl, rfl⟩
            go_wp2_with fail
            refine (hcl _).mono ?_
            rintro e wz ⟨rfl, rfl⟩
            clear hca hcl
            go_upto_if 82 with (fail)
            go_cut [20] from 77 to 83 (fun v wx => (∃ lim : Int, v = .int .i64 lim ∧ -9223372036854775808 ≤ lim ∧ lim ≤ 9223372036854775807) ∧ wx = w9)
            case first =>
              have HM1 := HMO.out.1
              have HM2 := HMO.out.2
              cases hb : (x.tmod 5 == 0)
              all_goals
                go_wp2_with fail
                go_meet
                exact ⟨⟨_, rfl, by omega, by omega⟩, rfl⟩
            case rest =>
              obtain ⟨⟨lim, rfl, hl1, hl2⟩, rfl⟩ := hcut
              have heq := V.eqv_read hst.out.1 kk lim
              have hle1 := Nat.le_trans (V.read_le kk lim s) hst.out.2.1
              have hle2 := Nat.le_trans (V.rRead_le kk lim s') hst.out.2.2
              have hln := V.read_len kk lim s
              obtain ⟨⟨y, s2⟩, hrd⟩ : ∃ r, V.read kk lim s = r := ⟨_, rfl⟩
              obtain ⟨⟨y', s2'⟩, hrd'⟩ : ∃ r, V.rRead kk lim s' = r := ⟨_, rfl⟩
              rw [hrd] at hle1 hln
              rw [hrd'] at hle2
              rw [hrd, hrd'] at heq
              obtain ⟨hy, hev⟩ := heq
              obtain rfl : y = y' := hy
              have hev : V.Eqv s2 s2' := hev
              obtain ⟨q, f2⟩ := s2
              obtain ⟨q', f2'⟩ := s2'
              obtain rfl : f2 = f2' := hev.1
              have hfin := V.eqv_fin hev
              obtain ⟨f, hf⟩ : ∃ f, V.fin (q, f2) = f := ⟨_, rfl⟩
              rw [hf] at hfin
              have HF := Lib.hid hf
              have HF' := Lib.hid hfin.symm
              have HRD1 := Lib.hid hrd
              have HRD2 := Lib.hid hrd'
              have HEV := Lib.hid hev
              have HSL := Lib.hid (show s.1.length ≤ 1000000 by have := hst.out.2.1; omega)
              have HSL' := Lib.hid (show s'.1.length ≤ 1000000 by have := hst.out.2.2; omega)
              have HYB := Lib.hid (show y.b.length ≤ 1000000 by have := hst.out.2.1; have := hln.1; simp only at this; omega)
              have HYL := Lib.hid (show y.l.length ≤ 1000000 by have := hst.out.2.1; have := hln.2; simp only at this; omega)
              have HLE := Lib.hid (And.intro hle1 hle2)
              have hglt := hin.lt
              have hg2lt := hri.lt
              have hdr : Below wc.heap.size wc wc.drew := Below.drew (Below.refl wc.heap.size wc)
              have hin' := hin.below hdr
              have hri' := hri.below hdr
              have hB' := Below.drew hB
              have hszd : wc.drew.heap.size = wc.heap.size := rfl
              have HSZ := Lib.hid hszd
              clear hf hfin hrd hrd' hev hst hle1 hle2 hln hal hak hx1 hx2 hdr hin hri hB hszd
              go_wp2_with fail
              go_region_with
                (first
                  | (go_at_call 22; refine (read_x g kk lim hl1 hl2 s HSL.out y (q, f2) HRD1.out _ hin').mono ?_; rintro e wa ⟨va, rfl, hva, hina, hga⟩; have hria := hri'.kept hga (fun k e => by injection e with e; subst e; exact ⟨hgw, by omega⟩))
                  | (go_at_call 23; refine (rRead_x w5.heap.size g2 kk lim hl1 hl2 s' HSL'.out y (q', f2) HRD2.out _ hria).mono ?_; rintro e wb ⟨vb, rfl, hvb, hrib, hgb⟩)
                  | (go_at_call 21; refine (same_any _ _ y HYB.out HYL.out _ (hva.toVal hgb hg2lt) hvb).mono ?_; rintro e wd ⟨rfl, hdd⟩; have hrid := hrib.below hdd; have hind := (hina.kept hgb (fun k e => by injection e with e; omega)).below hdd; obtain ⟨_, Ad, cd, kd, _, _, _⟩ := id hrid; have kd1 := kd.cell1; have kdf := kd.frozen1)
                  | (go_at_call 24; refine (inErr_val f2 g (q, f2) rfl _ hind).mono ?_; rintro e we ⟨rfl, rfl⟩)
                  | (go_at_call 25; refine (inEnd_val f g (q, f2) HF.out _ hind).mono ?_; rintro e we ⟨rfl, rfl⟩)
                  | (go_at_call 26; refine (rEnd_val f w5.heap.size g2 (q', f2) HF'.out _ hrid).mono ?_; rintro e we ⟨rfl, rfl⟩))
              all_goals
                have hBd := (only_new (only_new hB' hga (by rw [HSZ.out]; exact hB'.size) hgw) hgb (by have := hga.size; have := hB'.size; omega) hg2w)
                have hBe := blater hBd (Nat.le_refl _) hdd
                clear hva hvb hina hria hrib hga hgb hdd hBd hB' hin' hri' kd kd1 kdf
                go_wp2_with fail
                go_roundw
                case rel => exact ⟨k + 1, (q, f2), (q', f2), by omega, by omega, by go_num, hind, hrid, ⟨HEV.out, HLE.out.1, HLE.out.2⟩, hBe⟩
                case measure => simp [intOf]; omega
          · have hge : len3 ≤ k ∨ 10 ≤ k := by omega
            clear hlk hin hri hst
            by_cases hk3 : k < len3
            · have hi2' : (k : Int) < (len3 : Int) := by omega
              have hi3' : (10 : Int) ≤ (k : Int) := by omega
              go_wp2_with fail
              go_roundw
              case rel => exact ⟨i + 1, by omega, by go_num, hB⟩
              case measure => simp [intOf]; omega
            · have hi2' : (len3 : Int) ≤ (k : Int) := by omega
              go_wp2_with fail
              go_roundw
              case rel => exact ⟨i + 1, by omega, by go_num, hB⟩
              case measure => simp [intOf]; omega
      · have hi2' : (2 : Int) ≤ (i : Int) := by omega
        go_wp2_with fail
        refine (lives_any _).mono ?_
        rintro e w8 ⟨rfl, hd8⟩
        have hb8 := blater (blater hb5 (Nat.le_refl _) hB) (Nat.le_refl _) hd8
        go_wp2_with fail
        go_ret
        exact ⟨rfl, hb8⟩
end Go.Proofs.Ytkjlafklhdojmaa
