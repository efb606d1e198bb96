/- The law WireWrites, walked. -/
import Derived.Test.YtkjlafklhdojmaaWireRef3
namespace Go.Proofs.Ytkjlafklhdojmaa
open Go.RowKit
set_option linter.unusedVariables false

theorem VOk.mono {m m' : Nat} {x : Vl} (h : VOk m x) (hm : m ≤ m') : VOk m' x := by
  rcases h with h | h | ⟨h1, h2, h3, h4, h5⟩ | ⟨h1, h2, h3, h4, h5, h6⟩
  · exact .inl h
  · exact .inr (.inl h)
  · exact .inr (.inr (.inl ⟨h1, h2, h3, by omega, h5⟩))
  · exact .inr (.inr (.inr ⟨h1, h2, h3, h4, by omega, h6⟩))
theorem refEncode_reads (bs : List UInt8) (k : Nat) (base m N n c : Nat) (A : Option Addr) (vs : List Vl) (hbs : V.encVs (vs.take n) = bs) (hk : bs.length = k) (hN : vs.length = N) (hn : n ≤ N) (hn2 : N ≤ 20) (hok : ∀ x ∈ vs, VOk m x) (hm : m ≤ 1000) (w : World) (h : ValsAt w base (.slice A N c) vs) :
    Calls Try.prog 17 #[.slice A n c] w fun e w' => ∃ A' c', e = .returned (.slice A' k c') ∧ k ≤ c' ∧ w'.ownsRow w.heap.size 5 1 (.slice A' k c') k (bv bs) ∧ Below w.heap.size w w' := by
  subst hbs hk
  refine (refEncode_any base m N n c A vs hN hn hn2 hok hm w h).mono ?_
  rintro e w' ⟨v, rfl, hown, hb⟩
  obtain ⟨A2, c2, rfl, hc, _, h2⟩ := own_reads hown
  exact ⟨A2, c2, rfl, hc, h2, hb⟩
theorem vals_four {w1 W2 w3 : World} {base n : Nat} {v v' : Value} {cells : List Value} {vs : List Vl} (hown : w1.ownsRow base 46 5 v n cells) (hvr : ValRow w1 w1.heap.size v.ownBlock cells vs) (hB : Below w1.heap.size w1 W2) (x y z t : Vl) (hx1 : x.b = []) (hx2 : x.l = []) (hy1 : y.b = []) (hy2 : y.l = []) (hz2 : z.l = []) (ht1 : t.b = [])
    (A A' : Option Addr) (kb kl c c' : Nat) (hkb : z.b.length = kb) (hkl : t.l.length = kl) (r1 : Reads W2 W2.heap.size 1 A kb (bv z.b)) (r2 : Reads W2 W2.heap.size 1 A' kl (iv t.l)) (h3 : ∀ ad, A = some ad → w1.heap.size ≤ ad.block ∧ ad.block < W2.heap.size) (h4 : ∀ ad, A' = some ad → w1.heap.size ≤ ad.block ∧ ad.block < W2.heap.size)
    (hgrow : W2.grownBy w3 v.ownBlock) (hat : v'.ownBlock = v.ownBlock ∨ v'.ownBlock = some W2.heap.size) :
    ValRow w3 w3.heap.size v'.ownBlock (cells ++ [.int .i64 x.kind, .int .u64 (x.u.toNat : Int), .int .i64 x.n, .slice none 0 0, .slice none 0 0, .int .i64 y.kind, .int .u64 (y.u.toNat : Int), .int .i64 y.n, .slice none 0 0, .slice none 0 0,
      .int .i64 z.kind, .int .u64 (z.u.toNat : Int), .int .i64 z.n, .slice A kb c, .slice none 0 0, .int .i64 t.kind, .int .u64 (t.u.toNat : Int), .int .i64 t.n, .slice none 0 0, .slice A' kl c']) (vs ++ [x, y, z, t]) := by
  have hN : ∀ ad : Addr, (none : Option Addr) = some ad → ad.block < W2.heap.size ∧ some ad.block ≠ v.ownBlock := fun ad e => by cases e
  have hfar : ∀ b, w1.heap.size ≤ b → some b ≠ v.ownBlock := fun b hb e => by have := (own_from hown b e.symm).2; omega
  have h1 := ((hvr.below hB).more hB.size).snoc x none none 0 0 0 0 (by rw [hx1]; rfl) (by rw [hx2]; rfl) (by rw [hx1]; exact Reads.none_) (by rw [hx2]; exact Reads.none_) hN hN
  have h2 := h1.snoc y none none 0 0 0 0 (by rw [hy1]; rfl) (by rw [hy2]; rfl) (by rw [hy1]; exact Reads.none_) (by rw [hy2]; exact Reads.none_) hN hN
  have h2a := h2.snoc z A none kb 0 c 0 hkb (by rw [hz2]; rfl) r1 (by rw [hz2]; exact Reads.none_) (fun ad e => ⟨(h3 ad e).2, hfar _ (h3 ad e).1⟩) hN
  have h2b := h2a.snoc t none A' 0 kl 0 c' (by rw [ht1]; rfl) hkl (by rw [ht1]; exact Reads.none_) r2 hN (fun ad e => ⟨(h4 ad e).2, hfar _ (h4 ad e).1⟩)
  have h5 := (h2b.grown hgrow (Nat.le_refl _) hat).more hgrow.size
  simpa using h5
theorem keepW {w5 W W' : World} {bo g base : Nat} {L : List UInt8} {v : Value} {xs : List Vl} (h : OutAt W bo g L ∧ ValsAt W base v xs ∧ Below w5.heap.size w5 W) (k : Below W.heap.size W W') : OutAt W' bo g L ∧ ValsAt W' base v xs ∧ Below w5.heap.size w5 W' :=
  ⟨h.1.later k, h.2.1.later k, blater h.2.2 (Nat.le_refl _) k⟩

set_option maxRecDepth 10000 in
set_option maxHeartbeats 8000000 in
theorem wireWrites_walk (a : Option Addr) (len cap : Nat) (zs : List Int) (u n : Int) (a2 : Option Addr) (len2 cap2 : Nat) (zs2 : List Int) (a3 : Option Addr) (len3 cap3 : Nat) (zs3 : List Int) (w : World) (hr : IsRow .i64 w a len cap zs) (hu : (Lit.int .u64 u).wf = true) (hn : (Lit.int .i64 n).wf = true) (hr2 : IsRow .u8 w a2 len2 cap2 zs2) (hr3 : IsRow .i64 w a3 len3 cap3 zs3) :
    Calls Try.prog 6 #[.slice a len cap, .int .u64 u, .int .i64 n, .slice a2 len2 cap2, .slice a3 len3 cap3] w fun e W' => e = .returned (.bool true) ∧ Below w.heap.size w W' := by
  obtain ⟨i0, hi, hz0, hz1, hz2⟩ := info_parts infoVal
  obtain ⟨ks, hkl, hlc, hcm, hrd, hwf⟩ := isRow_ints hr
  obtain ⟨raw, hrl, hlc2, hcm2, hrd2⟩ := isRow_bytes hr2
  obtain ⟨ls, hll, hlc3, hcm3, hrd3, hwf3⟩ := isRow_ints hr3
  obtain ⟨uu, rfl⟩ := wf_u64 hu
  have HNR := Lib.hid (show inr n from wf_bd hn)
  have hvals := vals_reads a len cap ks hkl (by omega) (fun n hn => wf_bd (hwf n hn)) w hrd
  obtain ⟨xb, hxb⟩ : ∃ x, raw.take 200 = x := ⟨_, rfl⟩
  obtain ⟨xl, hxl⟩ : ∃ x, ls.take 20 = x := ⟨_, rfl⟩
  obtain ⟨kb, hkb⟩ : ∃ k, xb.length = k := ⟨_, rfl⟩
  obtain ⟨kl, hkl2⟩ : ∃ k, xl.length = k := ⟨_, rfl⟩
  have hkb' : kb ≤ 200 := by rw [← hkb, ← hxb, List.length_take]; omega
  have hkl' : kl ≤ 20 := by rw [← hkl2, ← hxl, List.length_take]; omega
  have HXR := Lib.hid (show ∀ n ∈ xl, inr n by intro n hn; rw [← hxl] at hn; exact wf_bd (hwf3 n (List.mem_of_mem_take hn)))
  have hfew := fun W (h : Reads W W.heap.size 1 a2 len2 (bv raw)) => few_reads a2 len2 cap2 200 raw kb hrl hlc2 hcm2 (by omega) (by rw [hxb]; exact hkb) W h
  have hints := fun W (h : Reads W W.heap.size 1 a3 len3 (iv ls)) => ints_reads a3 len3 cap3 20 ls kl hll hlc3 hcm3 (by omega) (by rw [hxl]; exact hkl2) W h
  simp only [hxb] at hfew
  simp only [hxl] at hints
  have HKB := Lib.hid hkb
  have HKL := Lib.hid hkl2
  clear hkl hcm hlc hwf hr hu hn hr2 hr3 hxb hxl hkb hkl2 hrl hll hlc2 hcm2 hlc3 hcm3 hwf3
  go_enter Try.func6, Try.ntmps6
  go_wp2_with fail
  refine hvals.mono ?_
  rintro e w1 ⟨A1, n1, c1, vs, rfl, hvl, hc1, hv1, hn8, hok, hb1⟩
  clear hvals
  have HVL := Lib.hid hvl
  have HOK := Lib.hid hok
  obtain ⟨cells, hown1, hvr1⟩ := hv1
  rw [hvl] at hown1
  clear hvl hok
  go_wp2_with fail
  refine (hfew _ (hrd2.later hb1)).mono ?_
  rintro e w2 ⟨A2, c2, rfl, hc2, hown2, hd2⟩
  go_wp2_with fail
  refine (hints _ (hrd3.later (blater hb1 (Nat.le_refl _) hd2))).mono ?_
  rintro e w3 ⟨A3, c3, rfl, hc3, hown3, hd3⟩
  clear hfew hints
  have hB3 := blater hd2 (Nat.le_refl _) hd3
  have hsw := hb1.size
  have hs2 := hd2.size
  have hs3 := hd3.size
  have hBn := hB3.alloc hB3.size (.cells [.int .i64 0, .int .u64 (uu.toNat : Int), .int .i64 0, .slice none 0 0, .slice none 0 0, .int .i64 1, .int .u64 0, .int .i64 n, .slice none 0 0, .slice none 0 0, .int .i64 2, .int .u64 0, .int .i64 0, .slice A2 kb c2, .slice none 0 0, .int .i64 3, .int .u64 0, .int .i64 0, .slice none 0 0, .slice A3 kl c3].toArray 46)
  have hrW := Reads.newS w3 [.int .i64 0, .int .u64 (uu.toNat : Int), .int .i64 0, .slice none 0 0, .slice none 0 0, .int .i64 1, .int .u64 0, .int .i64 n, .slice none 0 0, .slice none 0 0, .int .i64 2, .int .u64 0, .int .i64 0, .slice A2 kb c2, .slice none 0 0, .int .i64 3, .int .u64 0, .int .i64 0, .slice none 0 0, .slice A3 kl c3] 46 5 4 rfl
  have hownW := own_below hown1 hBn
  have hA2 := own_addr (own_below hown2 hd3) (Nat.le_refl _)
  have hl2 := own_from hown2
  have hl3 := own_from hown3
  have q2 := (Reads.of_own (own_below hown2 hd3)).later ((Below.refl _ _).alloc (Nat.le_refl _) (.cells [.int .i64 0, .int .u64 (uu.toNat : Int), .int .i64 0, .slice none 0 0, .slice none 0 0, .int .i64 1, .int .u64 0, .int .i64 n, .slice none 0 0, .slice none 0 0, .int .i64 2, .int .u64 0, .int .i64 0, .slice A2 kb c2, .slice none 0 0, .int .i64 3, .int .u64 0, .int .i64 0, .slice none 0 0, .slice A3 kl c3].toArray 46))
  have q3 := (Reads.of_own hown3).later ((Below.refl _ _).alloc (Nat.le_refl _) (.cells [.int .i64 0, .int .u64 (uu.toNat : Int), .int .i64 0, .slice none 0 0, .slice none 0 0, .int .i64 1, .int .u64 0, .int .i64 n, .slice none 0 0, .slice none 0 0, .int .i64 2, .int .u64 0, .int .i64 0, .slice A2 kb c2, .slice none 0 0, .int .i64 3, .int .u64 0, .int .i64 0, .slice none 0 0, .slice A3 kl c3].toArray 46))
  go_wp2_with (at_builtin; refine wpList_append_any _ rfl _ _ 34 rfl w.heap.size 46 i0 (.agg #[.int .i64 0, .int .u64 0, .int .i64 0, .slice none 0 0, .slice none 0 0]) 5 72 Try.underlying34 hi hz0 hz1 hz2 rfl (by decide) _ _ _ rfl hownW _ _ 4 4 _ rfl hrW (by simp [Value.oneCell']) (by unfold maxLen; omega) (by omega) (by simp; omega) ?_; intro v5 w5 hown5 hgrow hat)
  have hvr5 : ValRow w5 w5.heap.size v5.ownBlock (cells ++ [.int .i64 0, .int .u64 (uu.toNat : Int), .int .i64 0, .slice none 0 0, .slice none 0 0, .int .i64 1, .int .u64 0, .int .i64 n, .slice none 0 0, .slice none 0 0, .int .i64 2, .int .u64 0, .int .i64 0, .slice A2 kb c2, .slice none 0 0, .int .i64 3, .int .u64 0, .int .i64 0, .slice none 0 0, .slice A3 kl c3]) (vs ++ [⟨0, uu, 0, [], []⟩, ⟨1, 0, n, [], []⟩, ⟨2, 0, 0, xb, []⟩, ⟨3, 0, 0, [], xl⟩]) :=
    vals_four hown1 hvr1 hBn ⟨0, uu, 0, [], []⟩ ⟨1, 0, n, [], []⟩ ⟨2, 0, 0, xb, []⟩ ⟨3, 0, 0, [], xl⟩ rfl rfl rfl rfl rfl rfl A2 A3 kb kl c2 c3 HKB.out HKL.out q2 q3
      (fun ad e => by subst e; have := hl2 ad.block rfl; refine ⟨by omega, by simp; omega⟩) (fun ad e => by subst e; have := hl3 ad.block rfl; refine ⟨by omega, by simp; omega⟩) hgrow hat
  have hb5 := vals_below hb1 hown1 hBn hgrow
  obtain ⟨A5, c5, rfl, hc5, _, hown5⟩ := own_reads hown5
  obtain ⟨xs, hxs⟩ : ∃ xs, vs ++ [⟨0, uu, 0, [], []⟩, ⟨1, 0, n, [], []⟩, ⟨2, 0, 0, xb, []⟩, ⟨3, 0, 0, [], xl⟩] = xs := ⟨_, rfl⟩
  have HXL := Lib.hid (show xs.length = n1 + 4 by rw [← hxs, List.length_append, HVL.out]; rfl)
  have HXO := Lib.hid (show ∀ x ∈ xs, VOk 200 x by
    intro x hx
    rw [← hxs] at hx
    rcases List.mem_append.1 hx with h | h
    · exact (HOK.out x h).mono (by omega)
    · rcases List.mem_cons.1 h with h | h
      · subst h; exact .inl ⟨rfl, rfl, rfl, rfl⟩
      · rcases List.mem_cons.1 h with h | h
        · subst h; exact .inr (.inl ⟨rfl, rfl, HNR.out, rfl, rfl⟩)
        · rcases List.mem_cons.1 h with h | h
          · subst h; exact .inr (.inr (.inl ⟨rfl, rfl, rfl, by show xb.length ≤ 200; rw [HKB.out]; exact hkb', rfl⟩))
          · obtain rfl : x = ⟨3, 0, 0, [], xl⟩ := by simpa using h
            exact .inr (.inr (.inr ⟨rfl, rfl, rfl, rfl, by show xl.length ≤ 200; rw [HKL.out]; omega, HXR.out⟩)))
  rw [hxs] at hvr5
  have hv5 : ValsAt w5 w.heap.size (.slice A5 (n1 + 4) c5) xs := ⟨_, by rw [HXL.out]; exact hown5, hvr5⟩
  clear hxs hvr5 hown5 hgrow hat hownW hrW hBn hown1 hvr1 hb1 hsw q2 q3 hA2 hl2 hl3 hown2 hown3 hd2 hd3 hB3 hs2 hs3
  obtain ⟨N, hN⟩ : ∃ N, n1 + 4 = N := ⟨_, rfl⟩
  rw [hN] at hv5 hc5 HXL ⊢
  have hN12 : N ≤ 12 := by omega
  have hccap : c5 ≤ 9223372036854775807 := by obtain ⟨cells', h1, _⟩ := hv5; rw [HXL.out] at h1; exact own_cap h1
  clear hN
  have ho0 := OutAt.new w5
  go_loopw [13] (fun ix wr => ∃ (i : Nat), i ≤ N ∧ ix = .int .i64 (i : Int) ∧ OutAt wr w5.heap.size w5.heap.size (V.encVs (xs.take i)) ∧ Below w5.heap.size w5 wr) (fun ix _ => N - (intOf ix).toNat)
  case atStart => exact ⟨0, Nat.zero_le _, rfl, by simpa [V.encVs] using ho0, (Below.refl _ _).alloc (Nat.le_refl _) _⟩
  case round =>
    obtain ⟨i, hi1, rfl, ho, hB⟩ := hrel
    by_cases hlt : i < N
    · obtain ⟨g, x, D, d, D', d', rfl, _, hgl, hx, c0, c1, c2, c3, c4, r1, r2⟩ := val_at hv5 (k := i) (by rw [HXL.out]; exact hlt)
      have f0 := (hB.cell (p := ⟨g, i * 5, none⟩) hgl).trans c0
      have f1 := (hB.cell (p := ⟨g, i * 5 + 1, none⟩) hgl).trans c1
      have f2 := (hB.cell (p := ⟨g, i * 5 + 2, none⟩) hgl).trans c2
      have f3 := (hB.cell (p := ⟨g, i * 5 + 3, none⟩) hgl).trans c3
      have f4 := (hB.cell (p := ⟨g, i * 5 + 4, none⟩) hgl).trans c4
      have q1 := r1.below hB
      have q2 := r2.below hB
      clear c0 c1 c2 c3 c4 r1 r2
      have hxok := HXO.out x (List.mem_of_getElem? hx)
      have hlen : ∀ j, (V.encVs (xs.take j)).length ≤ 100000 := by
        intro j
        have h1 := V.encVs_len (m := 200) (vs := xs.take j) (fun y hy => HXO.out y (List.mem_of_mem_take hy))
        have h2 : (xs.take j).length ≤ 12 := by rw [List.length_take, HXL.out]; omega
        have h3 : (xs.take j).length * (10 + 10 * 200) ≤ 12 * (10 + 10 * 200) := Nat.mul_le_mul h2 (by omega)
        omega
      obtain ⟨L, hL⟩ : ∃ L, V.encVs (xs.take (i + 1)) = L := ⟨_, rfl⟩
      obtain ⟨kL, hkL⟩ : ∃ k, L.length = k := ⟨_, rfl⟩
      have hkL' : kL ≤ 100000 := by rw [← hkL, ← hL]; exact hlen (i + 1)
      have hwr := write_any w5.heap.size w5.heap.size 200 _ L (.agg #[.int .i64 x.kind, .int .u64 (x.u.toNat : Int), .int .i64 x.n, .slice D x.b.length d, .slice D' x.l.length d']) x (by rw [← hL, List.take_add_one, hx]; simp [V.encVs]) hxok (by omega) (by have := hlen i; omega) wr ho ⟨D, d, D', d', rfl, q1, q2⟩
      have HLE := Lib.hid hL
      have HKL2 := Lib.hid hkL
      obtain ⟨lb, hlb⟩ : ∃ k, x.b.length = k := ⟨_, rfl⟩
      obtain ⟨ll, hll⟩ : ∃ k, x.l.length = k := ⟨_, rfl⟩
      obtain ⟨xk, hxk⟩ : ∃ k, x.kind = k := ⟨_, rfl⟩
      obtain ⟨xu, hxu⟩ : ∃ k, x.u = k := ⟨_, rfl⟩
      obtain ⟨xn, hxn⟩ : ∃ k, x.n = k := ⟨_, rfl⟩
      rw [hlb] at f3 hwr
      rw [hll] at f4 hwr
      rw [hxk] at f0 hwr
      rw [hxu] at f1 hwr
      rw [hxn] at f2 hwr
      clear hlb hll hxk hxu hxn hx hxok hlen q1 q2 hL hkL
      have hz1 : (0 : Int) ≤ (i : Int) := by omega
      have hz2 : (i : Int) < (N : Int) := by omega
      go_wp2_with fail
      refine hwr.mono ?_
      rintro e w6 ⟨rfl, ho6, ht6⟩
      clear hwr f0 f1 f2 f3 f4
      have hB6 := hB.trans (ht6.below ho)
      have hv6 := hv5.later hB6
      have hdr : Below w6.heap.size w6 w6.drew := Below.drew (Below.refl w6.heap.size w6)
      have ho7 : OutAt w6.drew w5.heap.size w5.heap.size L := OutAt.later ho6 hdr
      have hv7 : ValsAt w6.drew w.heap.size (.slice (some ⟨g, 0, none⟩) N c5) xs := ValsAt.later hv6 hdr
      have hB7 : Below w5.heap.size w5 w6.drew := Below.drew hB6
      have hS0 := Lib.hid (And.intro ho7 (And.intro hv7 hB7))
      clear ho7 hv7 hB7 hdr
      have hN20 : N ≤ 20 := by omega
      have hkLa : kL ≤ 20000000 := by omega
      have hkLb : kL ≤ 1000000 := by omega
      have h200 : 200 ≤ 1000 := by omega
      have hw4 : (i : Int) + 1 ≤ (c5 : Int) := by omega
      have hw5 : ((i : Int) + 1).toNat = i + 1 := by omega
      have hw3 : (0 : Int) ≤ (i : Int) + 1 := by omega
      have hw2 : RowKit.wrap64 ((i : Int) + 1) = (i : Int) + 1 := by unfold RowKit.wrap64; omega
      have hw1 : IntKind.i64.wrap ((i : Int) + 1) = (i : Int) + 1 := by rw [IntKind.wrap_i64]; clear hw2 hw5; omega
      go_wp2_with fail
      go_region_held3 (fun w' => OutAt w' w5.heap.size w5.heap.size L ∧ ValsAt w' w.heap.size (.slice (some ⟨g, 0, none⟩) N c5) xs ∧ Below w5.heap.size w5 w')
        (first | exact hS0.out | assumption | exact keepW (by assumption) (by assumption))
        (first
          | (go_at_call 15; refine (done_own _ _ kL L HKL2.out hkLa _ (And.left (by assumption))).mono ?_; rintro e w7 ⟨A7, c7, rfl, hc7, hown7, hd7⟩)
          | (go_at_call 17; refine (refEncode_reads L kL _ 200 N (i + 1) c5 _ xs HLE.out HKL2.out HXL.out hlt hN20 HXO.out h200 _ (And.left (And.right (by assumption)))).mono ?_; rintro e w8 ⟨A8, c8, rfl, hc8, hown8, hd8⟩)
          | (go_at_call 30; refine (sameBytes_b true _ _ kL _ kL _ L L HKL2.out HKL2.out (decide_eq_true rfl).symm hkLb hkLb _ (by first | exact Reads.of_own hown7 | exact (Reads.of_own hown7).later hd8) (by first | exact Reads.of_own hown8 | exact (Reads.of_own hown8).later hd7)).mono ?_; rintro e w9 ⟨rfl, hd9⟩))
      have hS9 := (by assumption : _ ∧ _ ∧ Below w5.heap.size w5 w9)
      clear hw1 hw2 hw5
      go_wp2_with fail
      go_roundw
      case rel => exact ⟨i + 1, by omega, by go_num, by rw [HLE.out]; exact hS9.1, hS9.2.2⟩
      case measure => simp [intOf]; omega
    · go_wp2_with fail
      refine (lives_any _).mono ?_
      rintro e w8 ⟨rfl, hd8⟩
      have hb8 := blater (blater hb5 (Nat.le_refl _) hB) (Nat.le_refl _) hd8
      go_wp2_with fail
      go_ret
      exact ⟨rfl, hb8⟩
end Go.Proofs.Ytkjlafklhdojmaa
