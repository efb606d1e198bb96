/- The reference's Vals. -/
import Derived.Test.YtkjlafklhdojmaaWireVals
namespace Go.Proofs.Ytkjlafklhdojmaa
open Go.RowKit
set_option linter.unusedVariables false

theorem u64_of (z : Int) (h1 : 0 ≤ z) (h2 : z < 18446744073709551616) : ∃ u : UInt64, z = (u.toNat : Int) := ⟨UInt64.ofNat z.toNat, by rw [UInt64.toNat_ofNat_of_lt' (show z.toNat < UInt64.size by show _ < 18446744073709551616; omega)]; omega⟩
theorem u64_shr (x : Int) (n : Nat) : ∃ u : UInt64, IntKind.u64.wrap x / 2 ^ n = (u.toNat : Int) := by
  have h : 0 ≤ IntKind.u64.wrap x ∧ IntKind.u64.wrap x < 18446744073709551616 := by rw [IntKind.wrap_u64]; omega
  have hp : (0 : Int) < 2 ^ n := Int.pow_pos (by omega)
  refine u64_of _ (Int.ediv_nonneg h.1 (by omega)) (Int.lt_of_le_of_lt (Int.ediv_le_self _ h.1) h.2)
theorem i64_shr (x : Int) (n : Nat) (h : inr x) : inr (x / 2 ^ n) := by
  have hp : (0 : Int) < 2 ^ n := Int.pow_pos (by omega)
  obtain ⟨p, hpe⟩ : ∃ p : Int, 2 ^ n = p := ⟨_, rfl⟩
  rw [hpe] at hp ⊢
  unfold inr at *
  constructor
  · exact (Int.le_ediv_iff_mul_le hp).2 (by omega)
  · have := Int.ediv_le_ediv hp h.2
    have h2 := Int.ediv_le_self p (show (0 : Int) ≤ 9223372036854775807 by omega)
    omega
theorem tdiv4_inr {x : Int} (h : inr x) : inr (x.tdiv 4) := by
  unfold inr at *
  by_cases h0 : 0 ≤ x
  · rw [Int.tdiv_eq_ediv_of_nonneg h0]; omega
  · have e : x.tdiv 4 = -((-x).tdiv 4) := by rw [Int.neg_tdiv, Int.neg_neg]
    rw [e, Int.tdiv_eq_ediv_of_nonneg (by omega)]; omega
theorem u8_of (z : Int) : ∃ c : UInt8, IntKind.u8.wrap z = (c.toNat : Int) := ⟨UInt8.ofNat (IntKind.u8.wrap z).toNat, by
  have h : 0 ≤ IntKind.u8.wrap z ∧ IntKind.u8.wrap z < 256 := by rw [IntKind.wrap_u8]; omega
  rw [UInt8.toNat_ofNat_of_lt' (show (IntKind.u8.wrap z).toNat < UInt8.size by show _ < 256; omega)]; omega⟩

theorem Reads.newS (w : World) (cs : List Value) (t : TypeId) (size n : Nat) (hn : cs.length = n * size) : Reads (w.alloc (.cells cs.toArray t)) (w.alloc (.cells cs.toArray t)).heap.size size (some ⟨w.heap.size, 0, none⟩) n cs := by
  refine ⟨hn, fun _ => ⟨_, rfl, by simp, fun j u hu => ?_⟩⟩
  have e1 : (⟨w.heap.size, 0, none⟩ : Addr).add j = ⟨w.heap.size, j, none⟩ := by
    unfold Addr.add
    split <;> simp_all
  rw [e1]
  have := World.cell?_alloc_mark w cs.toArray t (0, 0) j
  rw [this]
  simpa using hu
theorem Five.set3 {W : World} {g : Nat} {T : TypeId} {a b c d e : Value} (h : Five W g T a b c d e) (u : Value) : Five (W.setCell ⟨g, 3, none⟩ u) g T a b c u e := by
  have h' : W.heap[g]? = _ := h
  unfold Five World.setCell
  simp [h', Array.getElem?_modify]
theorem Five.set4 {W : World} {g : Nat} {T : TypeId} {a b c d e : Value} (h : Five W g T a b c d e) (u : Value) : Five (W.setCell ⟨g, 4, none⟩ u) g T a b c d u := by
  have h' : W.heap[g]? = _ := h
  unfold Five World.setCell
  simp [h', Array.getElem?_modify]
theorem vals_step {wr W2 w1 : World} {base i : Nat} {v v' : Value} {cells : List Value} {vs : List Vl} (hown : wr.ownsRow base 46 5 v i cells) (hvr : ValRow wr wr.heap.size v.ownBlock cells vs) (hB : Below wr.heap.size wr W2) (x : Vl) (A A' : Option Addr) (kb kl c c' : Nat)
    (hkb : x.b.length = kb) (hkl : x.l.length = kl) (h1 : Reads W2 W2.heap.size 1 A kb (bv x.b)) (h2 : Reads W2 W2.heap.size 1 A' kl (iv x.l)) (h3 : ∀ ad, A = some ad → wr.heap.size ≤ ad.block ∧ ad.block < W2.heap.size) (h4 : ∀ ad, A' = some ad → wr.heap.size ≤ ad.block ∧ ad.block < W2.heap.size)
    (hgrow : W2.grownBy w1 v.ownBlock) (hat : v'.ownBlock = v.ownBlock ∨ v'.ownBlock = some W2.heap.size) :
    ValRow w1 w1.heap.size v'.ownBlock (cells ++ [.int .i64 x.kind, .int .u64 (x.u.toNat : Int), .int .i64 x.n, .slice A kb c, .slice A' kl c']) (vs ++ [x]) := by
  have hfar : ∀ b, wr.heap.size ≤ b → some b ≠ v.ownBlock := fun b hb e => by have := (own_from hown b e.symm).2; omega
  exact ((((hvr.below hB).more hB.size).snoc x A A' kb kl c c' hkb hkl h1 h2 (fun ad e => ⟨(h3 ad e).2, hfar _ (h3 ad e).1⟩) (fun ad e => ⟨(h4 ad e).2, hfar _ (h4 ad e).1⟩)).grown hgrow (Nat.le_refl _) hat).more hgrow.size
theorem vals_below {w wr W2 w1 : World} {i : Nat} {v : Value} {cells : List Value} (hb : Below w.heap.size w wr) (hown : wr.ownsRow w.heap.size 46 5 v i cells) (hB : Below wr.heap.size wr W2) (hgrow : W2.grownBy w1 v.ownBlock) : Below w.heap.size w w1 :=
  (blater hb (Nat.le_refl _) hB).grown hgrow (Nat.le_trans hb.size hB.size) (fun k e => (own_from hown k e).1)

set_option maxRecDepth 10000 in
set_option maxHeartbeats 8000000 in
theorem vals_any (A : Option Addr) (len cap : Nat) (ks : List Int) (hkl : ks.length = len) (hcap : len ≤ 9223372036854775807) (hwf : ∀ n ∈ ks, inr n) (w : World) (hrd : Reads w w.heap.size 1 A len (iv ks)) :
    Calls Try.prog 18 #[.slice A len cap] w fun e w' => ∃ v vs, e = .returned v ∧ ValsAt w' w.heap.size v vs ∧ vs.length ≤ 8 ∧ (∀ x ∈ vs, VOk 10 x) ∧ Below w.heap.size w w' := by
  obtain ⟨i0, hi, hz0, hz1, hz2⟩ := info_parts infoVal
  obtain ⟨j0, gi, gz0, gz1, gz2⟩ := info_parts infoByte
  obtain ⟨m0, ni, nz0, nz1, nz2⟩ := info_parts infoInt
  have HKL := Lib.hid hkl
  have HWF := Lib.hid hwf
  have HRD := Lib.hid hrd
  clear hkl hwf hrd
  go_enter Try.func18, Try.ntmps18
  go_wp2_with fail
  go_loopw [3, 4] (fun v ix wr => ∃ (i : Nat) (vs : List Vl) (cells : List Value), i ≤ len ∧ i ≤ 8 ∧ ix = .int .i64 (i : Int) ∧ wr.ownsRow w.heap.size 46 5 v i cells ∧ ValRow wr wr.heap.size v.ownBlock cells vs ∧ Hid (vs.length = i ∧ ∀ x ∈ vs, VOk 10 x) ∧ Below w.heap.size w wr)
    (fun _ ix _ => 8 - (intOf ix).toNat)
  case atStart => exact ⟨0, [], [], Nat.zero_le _, Nat.zero_le _, rfl, World.ownsRow_nil _ _ _ _, ValRow.nil _ _ _, ⟨rfl, by simp⟩, Below.refl _ _⟩
  case round =>
    obtain ⟨wo, rfl⟩ : ∃ x, x = wr := ⟨_, rfl⟩
    obtain ⟨i, vs, cells, hi1, hi2, rfl, hown, hvr, hvs, hb⟩ := hrel
    by_cases hlt : i < len ∧ i < 8
    · obtain ⟨hlt1, hlt2⟩ := hlt
      obtain ⟨ad, u, rfl, _, hu, hcell⟩ := (HRD.out.below hb).at_ hlt1
      obtain ⟨x, hx, rfl⟩ := iv_at hu
      have hxb : inr x := HWF.out x (List.mem_of_getElem? hx)
      have HXB := Lib.hid hxb
      have hxq : -9223372036854775808 ≤ x.tdiv 4 ∧ x.tdiv 4 ≤ 9223372036854775807 := tdiv4_inr hxb
      have hak := arN_bd x 4 (by omega)
      have hca := fun W => around_any x 4 hxb.1 hxb.2 (by omega) (by omega) W
      have han := arN_bd (x.tdiv 4) 63 (by omega)
      obtain ⟨n, hn⟩ := Int.eq_ofNat_of_zero_le han.1
      have hn63 : n < 63 := by omega
      have hcn := fun W => around_nat (x.tdiv 4) 63 n hxq.1 hxq.2 (by omega) (by omega) hn W
      obtain ⟨kk, hkk⟩ : ∃ kk, arN x 4 = kk := ⟨_, rfl⟩
      simp only [hkk] at hak hca
      clear hkk hx hu hxb han hn
      have hwn : IntKind.u64.wrap (n : Int) = (n : Int) := by rw [IntKind.wrap_u64]; omega
      go_wp2_with fail
      refine (hca _).mono ?_
      rintro e w6 ⟨rfl, rfl⟩
      clear hca
      go_wp2_with fail
      refine (hcn _).mono ?_
      rintro e w6 ⟨rfl, rfl⟩
      clear hcn
      have hcellZ : ∀ o, (wo.alloc o).cell? (ad.add i) = some (.int .i64 x) := fun o => (World.cell?_alloc_lt wo o _ (cell_lt hcell)).trans hcell
      have hcellk := hcellZ (.cells #[.int .i64 kk, .int .u64 0, .int .i64 0, .slice none 0 0, .slice none 0 0] 46)
      by_cases h0 : kk = 0
      · subst h0
        clear hcellZ
        obtain ⟨uu, huu⟩ := u64_shr x n
        have hB1 : Below wo.heap.size wo (wo.alloc (.cells #[.int .i64 0, .int .u64 (uu.toNat : Int), .int .i64 0, .slice none 0 0, .slice none 0 0] 46)) := (Below.refl _ _).alloc (Nat.le_refl _) _
        have hB2 := hB1.alloc hB1.size (.cells [.int .i64 0, .int .u64 (uu.toNat : Int), .int .i64 0, .slice none 0 0, .slice none 0 0].toArray 46)
        have hownW := own_below hown hB2
        have hsW : w.heap.size ≤ (wo.alloc (.cells #[.int .i64 0, .int .u64 (uu.toNat : Int), .int .i64 0, .slice none 0 0, .slice none 0 0] 46)).heap.size := Nat.le_trans hb.size hB1.size
        have hsw : w.heap.size ≤ wo.heap.size := hb.size
        have hrW := Reads.newS (wo.alloc (.cells #[.int .i64 0, .int .u64 (uu.toNat : Int), .int .i64 0, .slice none 0 0, .slice none 0 0] 46)) [.int .i64 0, .int .u64 (uu.toNat : Int), .int .i64 0, .slice none 0 0, .slice none 0 0] 46 5 1 rfl
        rw [show (wo.alloc (.cells #[.int .i64 0, .int .u64 (uu.toNat : Int), .int .i64 0, .slice none 0 0, .slice none 0 0] 46)).heap.size = wo.heap.size + 1 from by simp] at hrW
        go_wp2_with (at_builtin; refine wpList_append_any _ rfl _ _ 34 rfl w.heap.size 46 i0 (.agg #[.int .i64 0, .int .u64 0, .int .i64 0, .slice none 0 0, .slice none 0 0]) 5 72 Try.underlying34 hi hz0 hz1 hz2 rfl (by decide) _ _ _ rfl hownW _ _ 1 1 [.int .i64 0, .int .u64 (uu.toNat : Int), .int .i64 0, .slice none 0 0, .slice none 0 0] rfl hrW (by simp [Value.oneCell']) (by unfold maxLen; omega) (by omega) (by simp; omega) ?_; intro v' w1 hown' hgrow hat)
        go_roundw
        case rel =>
          have hvr2 : ValRow w1 w1.heap.size v'.ownBlock (cells ++ [.int .i64 0, .int .u64 (uu.toNat : Int), .int .i64 0, .slice none 0 0, .slice none 0 0]) (vs ++ [⟨0, uu, 0, [], []⟩]) := vals_step hown hvr hB2 ⟨0, uu, 0, [], []⟩ none none 0 0 0 0 rfl rfl Reads.none_ Reads.none_ (fun ad e => by cases e) (fun ad e => by cases e) hgrow hat
          have hb2 := vals_below hb hown hB2 hgrow
          exact ⟨i + 1, vs ++ [⟨0, uu, 0, [], []⟩], _, by omega, by omega, by go_num, hown', hvr2, ⟨by simp [hvs.out.1], fun y hy => by
            rcases List.mem_append.1 hy with h | h
            · exact hvs.out.2 y h
            · obtain rfl : y = ⟨0, uu, 0, [], []⟩ := by simpa using h
              exact .inl ⟨rfl, rfl, rfl, rfl⟩⟩, hb2⟩
        case measure => simp [intOf]; omega
      · by_cases h1 : kk = 1
        · subst h1
          clear hcellZ
          obtain ⟨nn, hnn⟩ : ∃ nn, x / 2 ^ n = nn := ⟨_, rfl⟩
          have hnnr : Hid (inr nn) := by rw [← hnn]; exact i64_shr x n HXB.out
          have hB1 : Below wo.heap.size wo (wo.alloc (.cells #[.int .i64 1, .int .u64 0, .int .i64 nn, .slice none 0 0, .slice none 0 0] 46)) := (Below.refl _ _).alloc (Nat.le_refl _) _
          have hB2 := hB1.alloc hB1.size (.cells [.int .i64 1, .int .u64 0, .int .i64 nn, .slice none 0 0, .slice none 0 0].toArray 46)
          have hownW := own_below hown hB2
          have hsW : w.heap.size ≤ (wo.alloc (.cells #[.int .i64 1, .int .u64 0, .int .i64 nn, .slice none 0 0, .slice none 0 0] 46)).heap.size := Nat.le_trans hb.size hB1.size
          have hsw : w.heap.size ≤ wo.heap.size := hb.size
          have hrW := Reads.newS (wo.alloc (.cells #[.int .i64 1, .int .u64 0, .int .i64 nn, .slice none 0 0, .slice none 0 0] 46)) [.int .i64 1, .int .u64 0, .int .i64 nn, .slice none 0 0, .slice none 0 0] 46 5 1 rfl
          rw [show (wo.alloc (.cells #[.int .i64 1, .int .u64 0, .int .i64 nn, .slice none 0 0, .slice none 0 0] 46)).heap.size = wo.heap.size + 1 from by simp] at hrW
          go_wp2_with (at_builtin; refine wpList_append_any _ rfl _ _ 34 rfl w.heap.size 46 i0 (.agg #[.int .i64 0, .int .u64 0, .int .i64 0, .slice none 0 0, .slice none 0 0]) 5 72 Try.underlying34 hi hz0 hz1 hz2 rfl (by decide) _ _ _ rfl hownW _ _ 1 1 [.int .i64 1, .int .u64 0, .int .i64 nn, .slice none 0 0, .slice none 0 0] rfl hrW (by simp [Value.oneCell']) (by unfold maxLen; omega) (by omega) (by simp; omega) ?_; intro v' w1 hown' hgrow hat)
          go_roundw
          case rel =>
            have hvr2 : ValRow w1 w1.heap.size v'.ownBlock (cells ++ [.int .i64 1, .int .u64 0, .int .i64 nn, .slice none 0 0, .slice none 0 0]) (vs ++ [⟨1, 0, nn, [], []⟩]) := vals_step hown hvr hB2 ⟨1, 0, nn, [], []⟩ none none 0 0 0 0 rfl rfl Reads.none_ Reads.none_ (fun ad e => by cases e) (fun ad e => by cases e) hgrow hat
            have hb2 := vals_below hb hown hB2 hgrow
            exact ⟨i + 1, vs ++ [⟨1, 0, nn, [], []⟩], _, by omega, by omega, by go_num, hown', hvr2, ⟨by simp [hvs.out.1], fun y hy => by
              rcases List.mem_append.1 hy with h | h
              · exact hvs.out.2 y h
              · obtain rfl : y = ⟨1, 0, nn, [], []⟩ := by simpa using h
                exact .inr (.inl ⟨rfl, rfl, hnnr.out, rfl, rfl⟩)⟩, hb2⟩
          case measure => simp [intOf]; omega
        · by_cases h2 : kk = 2
          · subst h2
            clear hcellZ
            have hzn : (n : Int).tmod 10 = ((n % 10 : Nat) : Int) := by rw [Int.tmod_eq_emod_of_nonneg (by omega)]; omega
            have hn10 : n % 10 ≤ 9 := by omega
            go_wp2_with fail
            go_loopw [8] (fun jx wj => ∃ (j : Nat) (vb : Value) (l : List UInt8), j ≤ n % 10 ∧ jx = .int .i64 (j : Int) ∧ Five wj wo.heap.size 46 (.int .i64 2) (.int .u64 0) (.int .i64 0) vb (.slice none 0 0) ∧ wj.ownsRow (wo.heap.size + 1) 5 1 vb j (bv l) ∧ Below wo.heap.size wo wj) (fun jx _ => 10 - (intOf jx).toNat)
            case atStart => exact ⟨0, .slice none 0 0, [], Nat.zero_le _, rfl, Five.new _ _ _ _ _ _ _, World.ownsRow_nil _ _ _ _, (Below.refl _ _).alloc (Nat.le_refl _) _⟩
            case round =>
              obtain ⟨wj, rfl⟩ : ∃ x, x = wr := ⟨_, rfl⟩
              obtain ⟨j, vb, l, hj, rfl, hfive, hownb, hB⟩ := hrel
              have hcj : wj.cell? (ad.add i) = some (.int .i64 x) := (hB.cell (cell_lt hcell)).trans hcell
              have hwj : IntKind.u64.wrap (j : Int) = (j : Int) := by rw [IntKind.wrap_u64]; omega
              have hc3 := hfive.cell3
              have hf3 := hfive.frozen 3
              by_cases hltj : j < n % 10
              · have hi1 : (0 : Int) ≤ (i : Int) := by omega
                have hi2 : (i : Int) < (len : Int) := by omega
                obtain ⟨cc, hcc⟩ := u8_of (x / 2 ^ j)
                have hnb1 : j + 1 ≤ maxLen := by unfold maxLen; omega
                have hnb2 : (j + 1) * 1 ≤ 140737488355328 := by omega
                have hBs : wo.heap.size + 1 ≤ wj.heap.size := by have := hfive.lt; omega
                have hne1 : some wo.heap.size ≠ vb.ownBlock := fun e => by have := (own_from hownb _ e.symm).1; omega
                have hadl : (ad.add i).block < wo.heap.size := cell_lt hcell
                have hne2 : some (ad.add i).block ≠ vb.ownBlock := fun e => by have := (own_from hownb _ e.symm).1; omega
                go_wp2_with fail
                have ne1 := World.new_ne wj _ hc3
                have ne2 := World.new_ne wj _ hcj
                have hX1 : (wj.alloc (.cells #[.int .u8 (cc.toNat : Int)] 5)).drew.cell? ⟨wo.heap.size, 3, none⟩ = some vb := (World.cell?_alloc_lt wj _ _ (by show wo.heap.size < _; omega)).trans hc3
                have hX2 : (wj.alloc (.cells #[.int .u8 (cc.toNat : Int)] 5)).drew.cell? (ad.add i) = some (.int .i64 x) := (World.cell?_alloc_lt wj _ _ (by omega)).trans hcj
                go_region_law (refine step_append_lies _ (by rfl) _ _ _ (by rfl) (wo.heap.size + 1) 5 j0 _ 1 1 Try.underlying24 gi gz0 gz1 gz2 rfl (by omega) vb j (bv l) (by rfl) ((hownb.alloc _).drew) ⟨wj.heap.size, 0, none⟩ 1 1 [.int .u8 (cc.toNat : Int)] (by rfl) (by rfl) (World.news_of_block (cs := #[.int .u8 (cc.toNat : Int)]) (t := 5) (fr := (0, 0)) (heap_alloc_new wj _)) (by simp [Value.oneCell']) (by omega) hnb1 hnb2 (by simp; omega) (wj.heap.size + 1) (by simp) ?_; intro gg cap' w1 hown1 hgrow hat hlt; have hfv1 := (hfive.below (((Below.refl _ _).alloc (Nat.le_refl _) _).drew)).kept hgrow hne1; have hfz1 := hfv1.frozen 3; have hcl1 := hfv1.cell3)
                all_goals
                  go_wp2_with fail
                  go_roundw
                  case rel => exact ⟨j + 1, _, l ++ [cc], by omega, by go_num, hfv1.set3 _, by rw [← bv_snoc]; exact ownsRow_setCell_below hown1 (a := ⟨wo.heap.size, 3, none⟩) (by show wo.heap.size < wo.heap.size + 1; omega) _, (((hB.alloc hB.size _).drew).grown hgrow (by simp; omega) (fun k e => by have := (own_from hownb k e).1; omega)).setCell (by show wo.heap.size ≤ wo.heap.size; omega) _⟩
                  case measure => simp [intOf]; omega
              · obtain ⟨Ab, cb, rfl, hcb, _, _⟩ := own_reads hownb
                have hll : l.length = j := by have := hownb.1; simp [bv] at this; omega
                have HLL := Lib.hid hll
                have hj9 : j ≤ 9 := by omega
                have hc0 := hfive.cell0
                have hc1 := hfive.cell1
                have hc2 := hfive.cell2
                have hc4 := hfive.cell4
                have hlo := own_from hownb
                clear hll
                have hB2 := hB.alloc hB.size (.cells [.int .i64 2, .int .u64 0, .int .i64 0, .slice Ab j cb, .slice none 0 0].toArray 46)
                have hownW := own_below hown hB2
                have hsW : w.heap.size ≤ wj.heap.size := Nat.le_trans hb.size hB.size
                have hsw : w.heap.size ≤ wo.heap.size := hb.size
                have hrW := Reads.newS wj [.int .i64 2, .int .u64 0, .int .i64 0, .slice Ab j cb, .slice none 0 0] 46 5 1 rfl
                go_wp2_with (at_builtin; refine wpList_append_any _ rfl _ _ 34 rfl w.heap.size 46 i0 (.agg #[.int .i64 0, .int .u64 0, .int .i64 0, .slice none 0 0, .slice none 0 0]) 5 72 Try.underlying34 hi hz0 hz1 hz2 rfl (by decide) _ _ _ rfl hownW _ _ 1 1 [.int .i64 2, .int .u64 0, .int .i64 0, .slice Ab j cb, .slice none 0 0] rfl hrW (by simp [Value.oneCell']) (by unfold maxLen; omega) (by omega) (by simp; omega) ?_; intro v' w1 hown' hgrow hat)
                go_roundw
                case rel =>
                  have hvr2 : ValRow w1 w1.heap.size v'.ownBlock (cells ++ [.int .i64 2, .int .u64 0, .int .i64 0, .slice Ab j cb, .slice none 0 0]) (vs ++ [⟨2, 0, 0, l, []⟩]) := vals_step hown hvr hB2 ⟨2, 0, 0, l, []⟩ Ab none j 0 cb 0 HLL.out rfl ((Reads.of_own hownb).later ((Below.refl _ _).alloc (Nat.le_refl _) _)) Reads.none_ (fun ad e => by subst e; have := hlo ad.block rfl; refine ⟨by omega, by simp; omega⟩) (fun ad e => by cases e) hgrow hat
                  have hb2 := vals_below hb hown hB2 hgrow
                  exact ⟨i + 1, vs ++ [⟨2, 0, 0, l, []⟩], _, by omega, by omega, by go_num, hown', hvr2, ⟨by simp [hvs.out.1], fun y hy => by
                    rcases List.mem_append.1 hy with h | h
                    · exact hvs.out.2 y h
                    · obtain rfl : y = ⟨2, 0, 0, l, []⟩ := by simpa using h
                      exact .inr (.inr (.inl ⟨rfl, rfl, rfl, by show l.length ≤ 10; rw [HLL.out]; omega, rfl⟩))⟩, hb2⟩
                case measure => simp [intOf]; omega
          · obtain rfl : kk = 3 := by omega
            clear hcellZ
            have hzn : (n : Int).tmod 5 = ((n % 5 : Nat) : Int) := by rw [Int.tmod_eq_emod_of_nonneg (by omega)]; omega
            have hn10 : n % 5 ≤ 4 := by omega
            go_wp2_with fail
            go_loopw [9] (fun jx wj => ∃ (j : Nat) (vb : Value) (l : List Int), j ≤ n % 5 ∧ jx = .int .i64 (j : Int) ∧ Five wj wo.heap.size 46 (.int .i64 3) (.int .u64 0) (.int .i64 0) (.slice none 0 0) vb ∧ wj.ownsRow (wo.heap.size + 1) 3 1 vb j (iv l) ∧ Below wo.heap.size wo wj ∧ Hid (∀ y ∈ l, inr y)) (fun jx _ => 10 - (intOf jx).toNat)
            case atStart => exact ⟨0, .slice none 0 0, [], Nat.zero_le _, rfl, Five.new _ _ _ _ _ _ _, World.ownsRow_nil _ _ _ _, (Below.refl _ _).alloc (Nat.le_refl _) _, by intro y h; cases h⟩
            case round =>
              obtain ⟨wj, rfl⟩ : ∃ x, x = wr := ⟨_, rfl⟩
              obtain ⟨j, vb, l, hj, rfl, hfive, hownb, hB, hlr⟩ := hrel
              have hcj : wj.cell? (ad.add i) = some (.int .i64 x) := (hB.cell (cell_lt hcell)).trans hcell
              obtain ⟨q, hq⟩ : ∃ q, 13 * j = q := ⟨_, rfl⟩
              have hq64 : q ≤ 64 := by omega
              have hwm : IntKind.i64.wrap (13 * (j : Int)) = (q : Int) := by rw [IntKind.wrap_i64]; omega
              have hwm2 : RowKit.wrap64 (13 * (j : Int)) = (q : Int) := by unfold RowKit.wrap64; omega
              have hwj : IntKind.u64.wrap (q : Int) = (q : Int) := by rw [IntKind.wrap_u64]; omega
              have HQ := Lib.hid hq
              clear hq
              have hc3 := hfive.cell4
              have hf3 := hfive.frozen 4
              by_cases hltj : j < n % 5
              · have hi1 : (0 : Int) ≤ (i : Int) := by omega
                have hi2 : (i : Int) < (len : Int) := by omega
                obtain ⟨y, hy⟩ : ∃ y, x / 2 ^ q = y := ⟨_, rfl⟩
                have hyr : Hid (inr y) := by rw [← hy]; exact i64_shr x q HXB.out
                have hnb1 : j + 1 ≤ maxLen := by unfold maxLen; omega
                have hnb2 : (j + 1) * 8 ≤ 140737488355328 := by omega
                have hBs : wo.heap.size + 1 ≤ wj.heap.size := by have := hfive.lt; omega
                have hne1 : some wo.heap.size ≠ vb.ownBlock := fun e => by have := (own_from hownb _ e.symm).1; omega
                have hadl : (ad.add i).block < wo.heap.size := cell_lt hcell
                have hne2 : some (ad.add i).block ≠ vb.ownBlock := fun e => by have := (own_from hownb _ e.symm).1; omega
                go_wp2_with fail
                have ne1 := World.new_ne wj _ hc3
                have ne2 := World.new_ne wj _ hcj
                have hX1 : (wj.alloc (.cells #[.int .i64 y] 3)).drew.cell? ⟨wo.heap.size, 4, none⟩ = some vb := (World.cell?_alloc_lt wj _ _ (by show wo.heap.size < _; omega)).trans hc3
                have hX2 : (wj.alloc (.cells #[.int .i64 y] 3)).drew.cell? (ad.add i) = some (.int .i64 x) := (World.cell?_alloc_lt wj _ _ (by omega)).trans hcj
                go_region_law (refine step_append_lies _ (by rfl) _ _ _ (by rfl) (wo.heap.size + 1) 3 m0 _ 1 8 Try.underlying32 ni nz0 nz1 nz2 rfl (by omega) vb j (iv l) (by rfl) ((hownb.alloc _).drew) ⟨wj.heap.size, 0, none⟩ 1 1 [.int .i64 y] (by rfl) (by rfl) (World.news_of_block (cs := #[.int .i64 y]) (t := 3) (fr := (0, 0)) (heap_alloc_new wj _)) (by simp [Value.oneCell']) (by omega) hnb1 hnb2 (by simp; omega) (wj.heap.size + 1) (by simp) ?_; intro gg cap' w1 hown1 hgrow hat hlt; have hfv1 := (hfive.below (((Below.refl _ _).alloc (Nat.le_refl _) _).drew)).kept hgrow hne1; have hfz1 := hfv1.frozen 4; have hcl1 := hfv1.cell4)
                all_goals
                  go_wp2_with fail
                  go_roundw
                  case rel => exact ⟨j + 1, _, l ++ [y], by omega, by go_num, hfv1.set4 _, by rw [← iv_snoc7]; exact ownsRow_setCell_below hown1 (a := ⟨wo.heap.size, 4, none⟩) (by show wo.heap.size < wo.heap.size + 1; omega) _, (((hB.alloc hB.size _).drew).grown hgrow (by simp; omega) (fun k e => by have := (own_from hownb k e).1; omega)).setCell (by show wo.heap.size ≤ wo.heap.size; omega) _, by
                    intro z hz
                    rcases List.mem_append.1 hz with h | h
                    · exact hlr.out z h
                    · obtain rfl : z = y := by simpa using h
                      exact hyr.out⟩
                  case measure => simp [intOf]; omega
              · obtain ⟨Ab, cb, rfl, hcb, _, _⟩ := own_reads hownb
                have hll : l.length = j := by have := hownb.1; simp [iv] at this; omega
                have HLL := Lib.hid hll
                have hj9 : j ≤ 4 := by omega
                have hc0 := hfive.cell0
                have hc1 := hfive.cell1
                have hc2 := hfive.cell2
                have hc4 := hfive.cell3
                have hlo := own_from hownb
                clear hll
                have hB2 := hB.alloc hB.size (.cells [.int .i64 3, .int .u64 0, .int .i64 0, .slice none 0 0, .slice Ab j cb].toArray 46)
                have hownW := own_below hown hB2
                have hsW : w.heap.size ≤ wj.heap.size := Nat.le_trans hb.size hB.size
                have hsw : w.heap.size ≤ wo.heap.size := hb.size
                have hrW := Reads.newS wj [.int .i64 3, .int .u64 0, .int .i64 0, .slice none 0 0, .slice Ab j cb] 46 5 1 rfl
                go_wp2_with (at_builtin; refine wpList_append_any _ rfl _ _ 34 rfl w.heap.size 46 i0 (.agg #[.int .i64 0, .int .u64 0, .int .i64 0, .slice none 0 0, .slice none 0 0]) 5 72 Try.underlying34 hi hz0 hz1 hz2 rfl (by decide) _ _ _ rfl hownW _ _ 1 1 [.int .i64 3, .int .u64 0, .int .i64 0, .slice none 0 0, .slice Ab j cb] rfl hrW (by simp [Value.oneCell']) (by unfold maxLen; omega) (by omega) (by simp; omega) ?_; intro v' w1 hown' hgrow hat)
                go_roundw
                case rel =>
                  have hvr2 : ValRow w1 w1.heap.size v'.ownBlock (cells ++ [.int .i64 3, .int .u64 0, .int .i64 0, .slice none 0 0, .slice Ab j cb]) (vs ++ [⟨3, 0, 0, [], l⟩]) := vals_step hown hvr hB2 ⟨3, 0, 0, [], l⟩ none Ab 0 j 0 cb rfl HLL.out Reads.none_ ((Reads.of_own hownb).later ((Below.refl _ _).alloc (Nat.le_refl _) _)) (fun ad e => by cases e) (fun ad e => by subst e; have := hlo ad.block rfl; refine ⟨by omega, by simp; omega⟩) hgrow hat
                  have hb2 := vals_below hb hown hB2 hgrow
                  exact ⟨i + 1, vs ++ [⟨3, 0, 0, [], l⟩], _, by omega, by omega, by go_num, hown', hvr2, ⟨by simp [hvs.out.1], fun y hy => by
                    rcases List.mem_append.1 hy with h | h
                    · exact hvs.out.2 y h
                    · obtain rfl : y = ⟨3, 0, 0, [], l⟩ := by simpa using h
                      exact .inr (.inr (.inr ⟨rfl, rfl, rfl, rfl, by show l.length ≤ 10; rw [HLL.out]; omega, hlr.out⟩))⟩, hb2⟩
                case measure => simp [intOf]; omega
    · have hge : len ≤ i ∨ 8 ≤ i := by omega
      go_wp2_with fail
      all_goals
        go_ret
        exact ⟨_, vs, rfl, ⟨cells, by rw [hvs.out.1]; exact hown, hvr⟩, by rw [hvs.out.1]; omega, hvs.out.2, hb⟩
end Go.Proofs.Ytkjlafklhdojmaa
