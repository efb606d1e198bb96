/- The law WireCanonical, walked. -/
import Derived.Test.YtkjlafklhdojmaaWireCan
import Derived.Deep.CutRange
namespace Go.Proofs.Ytkjlafklhdojmaa
open Go.RowKit
set_option linter.unusedVariables false

theorem read_rowv (g : Nat) (kind : Int) (s : V.St) (hsl : s.1.length ≤ 1000000) (x : Vl) (s' : V.St) (hx : V.read kind 60 s = (x, s')) (kb kl : Nat) (hkb : x.b.length = kb) (hkl : x.l.length = kl) (w : World) (h : InAt 75 w g s) :
    Calls Try.prog 22 #[.pointer (some ⟨g, 0, none⟩), .int .i64 kind, .int .i64 60] w fun e w' =>
      ∃ A c A' c', e = .returned (.agg #[.int .i64 x.kind, .int .u64 (x.u.toNat : Int), .int .i64 x.n, .slice A kb c, .slice A' kl c']) ∧ Reads w' w'.heap.size 1 A kb (bv x.b) ∧ Reads w' w'.heap.size 1 A' kl (iv x.l) ∧ (∀ ad, A = some ad → w.heap.size ≤ ad.block ∧ ad.block < w'.heap.size) ∧ (∀ ad, A' = some ad → w.heap.size ≤ ad.block ∧ ad.block < w'.heap.size) ∧ InAt 75 w' g s' ∧ w.grownBy w' (some g) := by
  subst hkb hkl
  have := read_row g kind 60 (by omega) (by omega) s hsl w h
  rw [hx] at this
  refine this.mono ?_
  rintro e w' ⟨v, rfl, ⟨A, c, A', c', rfl, h1, h2, h3, h4⟩, h5, h6⟩
  exact ⟨A, c, A', c', rfl, h1, h2, h3, h4, h5, h6⟩

set_option maxRecDepth 10000 in
set_option maxHeartbeats 8000000 in
theorem wireCanonical_walk (a : Option Addr) (len cap : Nat) (zs : List Int) (a2 : Option Addr) (len2 cap2 : Nat) (zs2 : List Int) (at' c : Int) (a3 : Option Addr) (len3 cap3 : Nat) (zs3 : List Int) (w : World) (hr : IsRow .u8 w a len cap zs) (hr2 : IsRow .i64 w a2 len2 cap2 zs2) (hat' : (Lit.int .i64 at').wf = true) (hc : (Lit.int .u8 c).wf = true) (hr3 : IsRow .i64 w a3 len3 cap3 zs3) :
    Calls Try.prog 7 #[.slice a len cap, .slice a2 len2 cap2, .int .i64 at', .int .u8 c, .slice a3 len3 cap3] w fun e W' => e = .returned (.bool true) ∧ Below w.heap.size w W' := by
  obtain ⟨i0, hi, hz0, hz1, hz2⟩ := info_parts infoVal
  obtain ⟨raw, hrl, hlc, hcm, hrd⟩ := isRow_bytes hr
  obtain ⟨ls, hll, hlc2, hcm2, hrd2, hwf2⟩ := isRow_ints hr2
  obtain ⟨ks, hkl, hlc3, hcm3, hrd3, hwf3⟩ := isRow_ints hr3
  obtain ⟨cc, rfl⟩ := wf_u8 hc
  have HAT := Lib.hid (wf_bd hat')
  have hvals := vals_reads a2 len2 cap2 ls hll (by omega) (fun n hn => wf_bd (hwf2 n hn)) w hrd2
  obtain ⟨rb, hrb⟩ : ∃ x, raw.take 60 = x := ⟨_, rfl⟩
  obtain ⟨kr, hkr⟩ : ∃ k, rb.length = k := ⟨_, rfl⟩
  have hkr' : kr ≤ 60 := by rw [← hkr, ← hrb, List.length_take]; omega
  have hfew := fun W (h : Reads W W.heap.size 1 a len (bv raw)) => few_reads a len cap 60 raw kr hrl hlc hcm (by omega) (by rw [hrb]; exact hkr) W h
  simp only [hrb] at hfew
  have HKR := Lib.hid hkr
  have HWF3 := Lib.hid (show ∀ n ∈ ks, inr n from fun n hn => wf_bd (hwf3 n hn))
  have HRD := Lib.hid hrd
  have HRD3 := Lib.hid hrd3
  have HFEW := Lib.hid hfew
  clear hrl hlc hcm hll hlc2 hcm2 hwf2 hkl hlc3 hwf3 hr hr2 hr3 hc hat' hrb hkr hrd hrd2 hrd3 hfew
  go_enter Try.func7, Try.ntmps7
  go_wp2_with fail
  refine hvals.mono ?_
  rintro e w1 ⟨A1, n1, c1, vs, rfl, hvl, hc1, hv1, hn8, hok, hb1⟩
  clear hvals
  have HVL := Lib.hid hvl
  have HOK := Lib.hid hok
  obtain ⟨bs, hbs⟩ : ∃ bs, V.encVs vs = bs := ⟨_, rfl⟩
  obtain ⟨kb, hkb⟩ : ∃ k, bs.length = k := ⟨_, rfl⟩
  have hkb2 : kb ≤ 1000 := by
    have h1 := V.encVs_len hok
    rw [hbs, hkb] at h1
    have h3 : vs.length * (10 + 10 * 10) ≤ 8 * (10 + 10 * 10) := Nat.mul_le_mul (by omega) (by omega)
    omega
  have HBS := Lib.hid hbs
  have HKB := Lib.hid hkb
  clear hvl hok hbs hkb
  go_wp2_with fail
  refine (encode_reads _ 10 n1 c1 A1 vs kb bs HBS.out HKB.out HVL.out (by omega) HOK.out (by omega) _ hv1).mono ?_
  rintro e w2 ⟨A2, c2, rfl, hc2, hown2, hd2⟩
  have hb2 := blater hb1 (Nat.le_refl _) hd2
  have hv2 := hv1.later hd2
  have hs1 := hb1.size
  clear hb1
  go_upto_if 24 with (fail)
  go_cut [] from 22 to 31 (fun wx => ∃ bs1 : List UInt8, Hid (bs1.length = kb) ∧ wx.ownsRow w1.heap.size 5 1 (.slice A2 kb c2) kb (bv bs1) ∧ ValsAt wx w.heap.size (.slice A1 n1 c1) vs ∧ Below w.heap.size w wx)
  case first =>
    by_cases hk0 : kb = 0
    · go_wp2_with fail
      go_meet
      exact ⟨bs, HKB, hown2, hv2, hb2⟩
    · have hk1 : (1 : Int) ≤ (kb : Int) := by omega
      have hab := arN_bd at' kb hk1
      obtain ⟨kn, hkn⟩ := Int.eq_ofNat_of_zero_le hab.1
      have hknl : kn < kb := by omega
      have hca := fun W => around_nat at' kb kn HAT.out.1 HAT.out.2 hk1 (by omega) hkn W
      have hkpos : (0 : Int) < (kb : Int) := by omega
      clear hab hkn hk0
      go_wp2_with fail
      refine (hca _).mono ?_
      rintro e w3 ⟨rfl, rfl⟩
      clear hca
      obtain ⟨g2, rfl, hg2⟩ := own_form hown2 hknl
      obtain ⟨y, hy⟩ : ∃ y, bs[kn]? = some y := ⟨_, List.getElem?_eq_getElem (by rw [HKB.out]; exact hknl)⟩
      have hcl := (hown2.cellAt kn (by omega)).trans (bv_getElem _ _ _ hy)
      have hfr := hown2.frozenAt kn
      have hst := (hown2.stored kn (.int .u8 (cc.toNat : Int))).1
      rw [bv_set] at hst
      have hz1' : (0 : Int) ≤ (kn : Int) := by omega
      have hz2' : (kn : Int) < (kb : Int) := by omega
      have hvx : ValsAt (w2.setCell ⟨g2, kn, none⟩ (.int .u8 (cc.toNat : Int))) w.heap.size (.slice A1 n1 c1) vs := hv1.later (hd2.setCell (by show w1.heap.size ≤ g2; exact hg2) _)
      clear hy
      go_wp2_with fail
      go_meet
      exact ⟨bs.set kn cc, by show (bs.set kn cc).length = kb; rw [List.length_set]; exact HKB.out, hst, hvx, hb2.setCell (by show w.heap.size ≤ g2; omega) _⟩
  case rest =>
    clear hv1 hv2 hb2 hd2 hown2
    obtain ⟨bs1, hbs1, hown3, hv3, hb3⟩ := hcut
    obtain ⟨w3, rfl⟩ : ∃ x, x = wc := ⟨_, rfl⟩
    go_wp2_with fail
    refine (newIn_any A2 kb c2 bs1 hbs1.out (by omega) _ (Reads.of_own hown3)).mono ?_
    rintro e w4 ⟨g, rfl, hg, hin4, hB4⟩
    have hgl := hin4.lt
    go_wp2_with fail
    have hgw : w3.heap.size ≤ g := hg
    have hsz4 := hB4.size
    go_loopw [14, 15] (fun v ix wr => ∃ (i : Nat) (s1 : V.St) (gs : List Vl) (cells : List Value), i ≤ n1 ∧ ix = .int .i64 (i : Int) ∧ InAt 75 wr g s1 ∧ wr.ownsRow w4.heap.size 46 5 v i cells ∧ ValRow wr wr.heap.size v.ownBlock cells gs ∧ ValRow wr wr.heap.size (some g) cells gs ∧ Hid (V.Canon bs1 s1 gs ∧ s1.1.length ≤ 1000 ∧ gs.length = i) ∧ Below w3.heap.size w3 wr ∧ w4.heap.size ≤ wr.heap.size) (fun _ ix _ => n1 - (intOf ix).toNat)
    case atStart => exact ⟨0, (bs1, 0), [], [], Nat.zero_le _, rfl, hin4, World.ownsRow_nil _ _ _ _, ValRow.nil _ _ _, ValRow.nil _ _ _, ⟨V.Canon.start bs1, by show bs1.length ≤ 1000; rw [hbs1.out]; exact hkb2, rfl⟩, hB4, Nat.le_refl _⟩
    case round =>
      obtain ⟨i, s1, gs, cells, hi1, rfl, hin, hown, hvA, hvG, hst, hB, hsz⟩ := hrel
      by_cases hlt : i < n1
      · obtain ⟨gr, x, _, _, _, _, rfl, _, hgrl, hx, c0, _⟩ := val_at hv3 (k := i) (by rw [HVL.out]; exact hlt)
        have f0 := (hB.cell (p := ⟨gr, i * 5, none⟩) hgrl).trans c0
        have hxok := HOK.out x (List.mem_of_getElem? hx)
        have hkk : 0 ≤ x.kind ∧ x.kind < 4 := by
          rcases hxok with ⟨h, _⟩ | ⟨h, _⟩ | ⟨h, _⟩ | ⟨h, _⟩ <;> rw [h] <;> decide
        have hcan := V.Canon.step hkk hst.out.1
        have hle := Nat.le_trans (V.read_le x.kind 60 s1) hst.out.2.1
        have hsl : s1.1.length ≤ 1000000 := by have := hst.out.2.1; omega
        obtain ⟨xk, hxk⟩ : ∃ k, x.kind = k := ⟨_, rfl⟩
        rw [hxk] at f0 hcan hle
        obtain ⟨⟨y, s2⟩, hrd⟩ : ∃ r, V.read xk 60 s1 = r := ⟨_, rfl⟩
        rw [hrd] at hcan hle
        have hcan : V.Canon bs1 s2 (gs ++ [y]) := hcan
        obtain ⟨yb, hyb⟩ : ∃ k, y.b.length = k := ⟨_, rfl⟩
        obtain ⟨yl, hyl⟩ : ∃ k, y.l.length = k := ⟨_, rfl⟩
        have HRD1 := Lib.hid hrd
        have HYB := Lib.hid hyb
        have HYL := Lib.hid hyl
        have HCAN := Lib.hid hcan
        have HSL := Lib.hid hsl
        have hgl := hin.lt
        clear hrd hyb hyl hcan hkk hxk hxok hx c0 hsl
        have hi1' : (0 : Int) ≤ (i : Int) := by omega
        have hi2' : (i : Int) < (n1 : Int) := by omega
        go_wp2_with fail
        refine (read_rowv g xk s1 HSL.out y s2 HRD1.out yb yl HYB.out HYL.out _ hin).mono ?_
        rintro e w5 ⟨Ab, cb, Al, cl, rfl, q1, q2, h3, h4, hin5, hg5⟩
        have hown5 := own_only hown hg5 (by omega)
        have hs5 := hg5.size
        have hBn : Below w5.heap.size w5 (w5.alloc (.cells [.int .i64 y.kind, .int .u64 (y.u.toNat : Int), .int .i64 y.n, .slice Ab yb cb, .slice Al yl cl].toArray 46)) := (Below.refl _ _).alloc (Nat.le_refl _) _
        have hownW := own_below hown5 hBn
        have hrW := Reads.newS w5 [.int .i64 y.kind, .int .u64 (y.u.toNat : Int), .int .i64 y.n, .slice Ab yb cb, .slice Al yl cl] 46 5 1 rfl
        have hsz5 : w4.heap.size ≤ w5.heap.size := by omega
        go_wp2_with (at_builtin; refine wpList_append_any _ rfl _ _ 34 rfl w4.heap.size 46 i0 (.agg #[.int .i64 0, .int .u64 0, .int .i64 0, .slice none 0 0, .slice none 0 0]) 5 72 Try.underlying34 hi hz0 hz1 hz2 rfl (by decide) _ _ _ rfl hownW _ _ 1 1 _ rfl hrW (by simp [Value.oneCell']) (by unfold maxLen; omega) (by omega) (by simp; omega) ?_; intro v' w6 hown' hgrow hat)
        go_roundw
        case rel =>
          have hgrow : (w5.alloc (.cells [.int .i64 y.kind, .int .u64 (y.u.toNat : Int), .int .i64 y.n, .slice Ab yb cb, .slice Al yl cl].toArray 46)).grownBy w6 _ := hgrow
          obtain ⟨hA6, hG6⟩ := got_step hown hvA hvG hgl hg5 hBn y Ab Al yb yl cb cl HYB.out HYL.out q1 q2 h3 h4 hgrow hat
          have hB5 := only_new hB hg5 hB.size hgw
          have hB6 := (blater hB5 (Nat.le_refl _) hBn).grown hgrow (by simp; omega) (fun k e => by have := (own_from hown5 k e).1; omega)
          have hin6 := (hin5.below hBn).kept hgrow (fun k e => by have := (own_from hown5 k e).1; omega)
          exact ⟨i + 1, s2, gs ++ [y], _, by omega, by go_num, hin6, hown', hA6, hG6, ⟨HCAN.out, hle, by simp [hst.out.2.2]⟩, hB6, by have := hgrow.size; simp at this; omega⟩
        case measure => simp [intOf]; omega
      · have hin1 : i = n1 := by omega
        subst hin1
        obtain ⟨w5, rfl⟩ : ∃ x, x = wr := ⟨_, rfl⟩
        obtain ⟨Ag, cg, rfl, _, _, hown⟩ := own_reads hown
        have hGL := Lib.hid hst.out.2.2
        have hCN := Lib.hid hst.out.1
        have hvg : ValsAt w5 w4.heap.size (.slice Ag i cg) gs := ⟨cells, by rw [hGL.out]; exact hown, hvA⟩
        have hown5 := own_below hown3 hB
        have hB5 := blater hb3 (Nat.le_refl _) hB
        clear hvA hvG hown hst
        go_upto_region 13 with (fail)
        go_cut [61] from 52 to 61 (fun b wx => b = .bool false ∧ Below w5.heap.size w5 wx)
        case first =>
          by_cases hf : V.fin s1 = 0
          · have HF := Lib.hid hf
            clear hf
            go_wp2_with fail
            refine (inEnd_val 0 g s1 HF.out _ hin).mono ?_
            rintro e w6 ⟨rfl, rfl⟩
            have hdn := hCN.out.done HF.out
            have HD1 := Lib.hid hdn.1
            have HD2 := Lib.hid hdn.2
            clear hdn
            go_wp2_with fail
            refine (encode_reads w4.heap.size 60 i cg Ag gs kb bs1 HD1.out hbs1.out hGL.out (by omega) HD2.out (by omega) _ hvg).mono ?_
            rintro e w6 ⟨A6, c6, rfl, hc6, hown6, hd6⟩
            go_wp2_with fail
            refine (sameBytes_b true A6 A2 kb c6 kb c2 bs1 bs1 hbs1.out hbs1.out (decide_eq_true rfl).symm (by omega) (by omega) _ (Reads.of_own hown6) (Reads.of_own (own_below hown5 hd6))).mono ?_
            rintro e w7 ⟨rfl, hd7⟩
            go_wp2_with fail
            go_meet
            exact ⟨rfl, blater hd6 (Nat.le_refl _) hd7⟩
          · obtain ⟨f, hff⟩ : ∃ f, V.fin s1 = f := ⟨_, rfl⟩
            rw [hff] at hf
            have HF := Lib.hid hff
            clear hff
            have hfb : (f == 0) = false := by rw [beq_eq_false_iff_ne]; exact hf
            clear hf
            go_wp2_with fail
            refine (inEnd_val f g s1 HF.out _ hin).mono ?_
            rintro e w6 ⟨rfl, rfl⟩
            go_wp2_with fail
            go_meet
            exact ⟨rfl, Below.refl _ _⟩
        case rest =>
          obtain ⟨rfl, hd5⟩ := hcut
          obtain ⟨w6, rfl⟩ : ∃ x, x = wc := ⟨_, rfl⟩
          have hb6 := blater hB5 (Nat.le_refl _) hd5
          clear hvg hown5 hB5 hB hown3 hv3 hb3 hB4
          have HKRN := Lib.hid hkr'
          go_wp2_with fail
          refine (HFEW.out _ (HRD.out.later hb6)).mono ?_
          rintro e w7 ⟨A7, c7, rfl, hc7, hown7, hd7⟩
          have hb7 := blater hb6 (Nat.le_refl _) hd7
          clear hb6 hd7 hin
          go_wp2_with fail
          refine (newIn_any A7 kr c7 rb HKR.out (by omega) _ (Reads.of_own hown7)).mono ?_
          rintro e w8 ⟨g2, rfl, hg2, hin8, hB8⟩
          have hgw2 : w7.heap.size ≤ g2 := hg2
          have hgl2 := hin8.lt
          have hsz8 := hB8.size
          clear hd5
          go_wp2_with fail
          go_loopw [14, 17] (fun v ix wr => ∃ (i : Nat) (s1 : V.St) (gs : List Vl) (cells : List Value), i ≤ len3 ∧ i ≤ 10 ∧ ix = .int .i64 (i : Int) ∧ InAt 75 wr g2 s1 ∧ wr.ownsRow w8.heap.size 46 5 v i cells ∧ ValRow wr wr.heap.size v.ownBlock cells gs ∧ ValRow wr wr.heap.size (some g2) cells gs ∧ Hid (V.Canon rb s1 gs ∧ s1.1.length ≤ 1000 ∧ gs.length = i) ∧ Below w7.heap.size w7 wr ∧ w8.heap.size ≤ wr.heap.size) (fun _ ix _ => 10 - (intOf ix).toNat)
          case atStart => exact ⟨0, (rb, 0), [], [], Nat.zero_le _, Nat.zero_le _, rfl, hin8, World.ownsRow_nil _ _ _ _, ValRow.nil _ _ _, ValRow.nil _ _ _, ⟨V.Canon.start rb, by show rb.length ≤ 1000; rw [HKR.out]; omega, rfl⟩, hB8, Nat.le_refl _⟩
          case round =>
            obtain ⟨i, s3, hs, cells, hi1, hi10, rfl, hin, hown, hvA, hvG, hst, hB, hsz⟩ := hrel
            have hb9 := blater hb7 (Nat.le_refl _) hB
            have hown9 := own_below hown7 hB
            by_cases hgo : i < len3 ∧ i < 10 ∧ V.fin s3 ≠ 0
            · obtain ⟨hl3, hl10, hf⟩ := hgo
              obtain ⟨ad, u, rfl, _, hu, hcell⟩ := (HRD3.out.below hb9).at_ hl3
              obtain ⟨x, hx, rfl⟩ := iv_at hu
              have hxb := HWF3.out x (List.mem_of_getElem? hx)
              have hak := arN_bd x 4 (by omega)
              have hca := fun W => around_any x 4 hxb.1 hxb.2 (by omega) (by omega) W
              obtain ⟨xk, hkk⟩ : ∃ kk, arN x 4 = kk := ⟨_, rfl⟩
              simp only [hkk] at hak hca
              obtain ⟨f, hff⟩ : ∃ f, V.fin s3 = f := ⟨_, rfl⟩
              rw [hff] at hf
              have HF := Lib.hid hff
              have hfb : (f != 0) = true := by rw [bne_iff_ne]; exact hf
              have hcan := V.Canon.step hak hst.out.1
              have hle := Nat.le_trans (V.read_le xk 60 s3) hst.out.2.1
              have hsl : s3.1.length ≤ 1000000 := by have := hst.out.2.1; omega
              obtain ⟨⟨y, s2⟩, hrd⟩ : ∃ r, V.read xk 60 s3 = r := ⟨_, rfl⟩
              rw [hrd] at hcan hle
              have hcan : V.Canon rb s2 (hs ++ [y]) := hcan
              obtain ⟨yb, hyb⟩ : ∃ k, y.b.length = k := ⟨_, rfl⟩
              obtain ⟨yl, hyl⟩ : ∃ k, y.l.length = k := ⟨_, rfl⟩
              have HRD1 := Lib.hid hrd
              have HYB := Lib.hid hyb
              have HYL := Lib.hid hyl
              have HCAN := Lib.hid hcan
              have HSL := Lib.hid hsl
              have hgl := hin.lt
              clear hrd hyb hyl hcan hkk hx hu hxb hff hf hsl
              have hi1' : (0 : Int) ≤ (i : Int) := by omega
              have hi2' : (i : Int) < (len3 : Int) := by omega
              have hi3' : (i : Int) < 10 := by omega
              go_wp2_with fail
              refine (inEnd_val f g2 s3 HF.out _ hin).mono ?_
              rintro e wa ⟨rfl, rfl⟩
              go_wp2_with fail
              refine (hca _).mono ?_
              rintro e wa ⟨rfl, rfl⟩
              clear hca
              go_wp2_with fail
              refine (read_rowv g2 xk s3 HSL.out y s2 HRD1.out yb yl HYB.out HYL.out _ hin).mono ?_
              rintro e w10 ⟨Ab, cb, Al, cl, rfl, q1, q2, h3, h4, hin10, hg10⟩
              have hown10 := own_only hown hg10 (by omega)
              have hs10 := hg10.size
              have hBn : Below w10.heap.size w10 (w10.alloc (.cells [.int .i64 y.kind, .int .u64 (y.u.toNat : Int), .int .i64 y.n, .slice Ab yb cb, .slice Al yl cl].toArray 46)) := (Below.refl _ _).alloc (Nat.le_refl _) _
              have hownW := own_below hown10 hBn
              have hrW := Reads.newS w10 [.int .i64 y.kind, .int .u64 (y.u.toNat : Int), .int .i64 y.n, .slice Ab yb cb, .slice Al yl cl] 46 5 1 rfl
              have hsz10 : w8.heap.size ≤ w10.heap.size := by omega
              go_wp2_with (at_builtin; refine wpList_append_any _ rfl _ _ 34 rfl w8.heap.size 46 i0 (.agg #[.int .i64 0, .int .u64 0, .int .i64 0, .slice none 0 0, .slice none 0 0]) 5 72 Try.underlying34 hi hz0 hz1 hz2 rfl (by decide) _ _ _ rfl hownW _ _ 1 1 _ rfl hrW (by simp [Value.oneCell']) (by unfold maxLen; omega) (by omega) (by simp; omega) ?_; intro v' w11 hown' hgrow hat)
              go_roundw
              case rel =>
                have hgrow : (w10.alloc (.cells [.int .i64 y.kind, .int .u64 (y.u.toNat : Int), .int .i64 y.n, .slice Ab yb cb, .slice Al yl cl].toArray 46)).grownBy w11 _ := hgrow
                obtain ⟨hA6, hG6⟩ := got_step hown hvA hvG hgl hg10 hBn y Ab Al yb yl cb cl HYB.out HYL.out q1 q2 h3 h4 hgrow hat
                have hB5 := only_new hB hg10 hB.size hgw2
                have hB6 := (blater hB5 (Nat.le_refl _) hBn).grown hgrow (by simp; omega) (fun k e => by have := (own_from hown10 k e).1; omega)
                have hin6 := (hin10.below hBn).kept hgrow (fun k e => by have := (own_from hown10 k e).1; omega)
                exact ⟨i + 1, s2, hs ++ [y], _, by omega, by omega, by go_num, hin6, hown', hA6, hG6, ⟨HCAN.out, hle, by simp [hst.out.2.2]⟩, hB6, by have := hgrow.size; simp at this; omega⟩
              case measure => simp [intOf]; omega
            · obtain ⟨w9, rfl⟩ : ∃ x, x = wr := ⟨_, rfl⟩
              obtain ⟨Ag, cg, rfl, _, _, hown⟩ := own_reads hown
              have HGL := Lib.hid hst.out.2.2
              have HCN := Lib.hid hst.out.1
              have hvg : ValsAt w9 w8.heap.size (.slice Ag i cg) hs := ⟨cells, by rw [HGL.out]; exact hown, hvA⟩
              clear hvA hvG hown hst hb7 hown7 hB hB8 hsz hsz8
              by_cases hf : V.fin s3 = 0
              · have HF := Lib.hid hf
                have hdn := HCN.out.done hf
                have HD1 := Lib.hid hdn.1
                have HD2 := Lib.hid hdn.2
                clear hdn hf hgo
                by_cases hl3 : i < len3
                · by_cases hl10 : i < 10
                  · have hi2' : (i : Int) < (len3 : Int) := by omega
                    have hi3' : (i : Int) < 10 := by omega
                    go_wp2_with fail
                    refine (inEnd_val 0 g2 s3 HF.out _ hin).mono ?_
                    rintro e wa ⟨rfl, rfl⟩
                    go_wp2_with fail
                    refine (inEnd_val 0 g2 s3 HF.out _ hin).mono ?_
                    rintro e wa ⟨rfl, rfl⟩
                    go_wp2_with fail
                    refine (encode_reads w8.heap.size 60 i cg Ag hs kr rb HD1.out HKR.out HGL.out (by omega) HD2.out (by omega) _ hvg).mono ?_
                    rintro e wb ⟨Ab, cb, rfl, hcb, hownb, hdb⟩
                    go_wp2_with fail
                    refine (sameBytes_b true Ab A7 kr cb kr c7 rb rb HKR.out HKR.out (decide_eq_true rfl).symm (by omega) (by omega) _ (Reads.of_own hownb) (Reads.of_own (own_below hown9 hdb))).mono ?_
                    rintro e wd ⟨rfl, hdd⟩
                    go_wp2_with fail
                    refine (lives_any _).mono ?_
                    rintro e we ⟨rfl, hde⟩
                    have hbe := blater (blater (blater hb9 (Nat.le_refl _) hdb) (Nat.le_refl _) hdd) (Nat.le_refl _) hde
                    go_wp2_with fail
                    go_ret
                    exact ⟨rfl, hbe⟩
                  · have hi2' : (i : Int) < (len3 : Int) := by omega
                    have hi3' : (10 : Int) ≤ (i : Int) := by omega
                    go_wp2_with fail
                    refine (inEnd_val 0 g2 s3 HF.out _ hin).mono ?_
                    rintro e wa ⟨rfl, rfl⟩
                    go_wp2_with fail
                    refine (encode_reads w8.heap.size 60 i cg Ag hs kr rb HD1.out HKR.out HGL.out (by omega) HD2.out (by omega) _ hvg).mono ?_
                    rintro e wb ⟨Ab, cb, rfl, hcb, hownb, hdb⟩
                    go_wp2_with fail
                    refine (sameBytes_b true Ab A7 kr cb kr c7 rb rb HKR.out HKR.out (decide_eq_true rfl).symm (by omega) (by omega) _ (Reads.of_own hownb) (Reads.of_own (own_below hown9 hdb))).mono ?_
                    rintro e wd ⟨rfl, hdd⟩
                    go_wp2_with fail
                    refine (lives_any _).mono ?_
                    rintro e we ⟨rfl, hde⟩
                    have hbe := blater (blater (blater hb9 (Nat.le_refl _) hdb) (Nat.le_refl _) hdd) (Nat.le_refl _) hde
                    go_wp2_with fail
                    go_ret
                    exact ⟨rfl, hbe⟩
                · have hi2' : (len3 : Int) ≤ (i : Int) := by omega
                  go_wp2_with fail
                  refine (inEnd_val 0 g2 s3 HF.out _ hin).mono ?_
                  rintro e wa ⟨rfl, rfl⟩
                  go_wp2_with fail
                  refine (encode_reads w8.heap.size 60 i cg Ag hs kr rb HD1.out HKR.out HGL.out (by omega) HD2.out (by omega) _ hvg).mono ?_
                  rintro e wb ⟨Ab, cb, rfl, hcb, hownb, hdb⟩
                  go_wp2_with fail
                  refine (sameBytes_b true Ab A7 kr cb kr c7 rb rb HKR.out HKR.out (decide_eq_true rfl).symm (by omega) (by omega) _ (Reads.of_own hownb) (Reads.of_own (own_below hown9 hdb))).mono ?_
                  rintro e wd ⟨rfl, hdd⟩
                  go_wp2_with fail
                  refine (lives_any _).mono ?_
                  rintro e we ⟨rfl, hde⟩
                  have hbe := blater (blater (blater hb9 (Nat.le_refl _) hdb) (Nat.le_refl _) hdd) (Nat.le_refl _) hde
                  go_wp2_with fail
                  go_ret
                  exact ⟨rfl, hbe⟩
              · have hge : len3 ≤ i ∨ 10 ≤ i := by
                  by_cases h1 : i < len3
                  · by_cases h2 : i < 10
                    · exact absurd ⟨h1, h2, hf⟩ hgo
                    · omega
                  · omega
                clear hgo
                obtain ⟨f, hff⟩ : ∃ f, V.fin s3 = f := ⟨_, rfl⟩
                rw [hff] at hf
                have HF := Lib.hid hff
                clear hff
                have hfb : (f != 0) = true := by rw [bne_iff_ne]; exact hf
                clear hf
                by_cases hl3 : i < len3
                · have hi2' : (i : Int) < (len3 : Int) := by omega
                  have hi3' : (10 : Int) ≤ (i : Int) := by omega
                  go_wp2_with fail
                  refine (inEnd_val f g2 s3 HF.out _ hin).mono ?_
                  rintro e wa ⟨rfl, rfl⟩
                  go_wp2_with fail
                  refine (lives_any _).mono ?_
                  rintro e we ⟨rfl, hde⟩
                  have hbe := blater hb9 (Nat.le_refl _) hde
                  go_wp2_with fail
                  go_ret
                  exact ⟨rfl, hbe⟩
                · have hi2' : (len3 : Int) ≤ (i : Int) := by omega
                  go_wp2_with fail
                  refine (inEnd_val f g2 s3 HF.out _ hin).mono ?_
                  rintro e wa ⟨rfl, rfl⟩
                  go_wp2_with fail
                  refine (lives_any _).mono ?_
                  rintro e we ⟨rfl, hde⟩
                  have hbe := blater hb9 (Nat.le_refl _) hde
                  go_wp2_with fail
                  go_ret
                  exact ⟨rfl, hbe⟩
end Go.Proofs.Ytkjlafklhdojmaa
