/- The law WireRound, walked. -/
import Derived.Test.YtkjlafklhdojmaaWireLawsP
namespace Go.Proofs.Ytkjlafklhdojmaa
open Go.RowKit
set_option linter.unusedVariables false

theorem keep5 {w2 W W' : World} {g i : Nat} {a b c d e : Value} (hg : g < w2.heap.size) (h : W.cell? ⟨g, i * 5, none⟩ = some a ∧ W.cell? ⟨g, i * 5 + 1, none⟩ = some b ∧ W.cell? ⟨g, i * 5 + 2, none⟩ = some c ∧ W.cell? ⟨g, i * 5 + 3, none⟩ = some d ∧ W.cell? ⟨g, i * 5 + 4, none⟩ = some e ∧ Below w2.heap.size w2 W) (hb : Below w2.heap.size w2 W') :
    W'.cell? ⟨g, i * 5, none⟩ = some a ∧ W'.cell? ⟨g, i * 5 + 1, none⟩ = some b ∧ W'.cell? ⟨g, i * 5 + 2, none⟩ = some c ∧ W'.cell? ⟨g, i * 5 + 3, none⟩ = some d ∧ W'.cell? ⟨g, i * 5 + 4, none⟩ = some e ∧ Below w2.heap.size w2 W' := by
  obtain ⟨h0, h1, h2, h3, h4, h5⟩ := h
  have hc : ∀ k, W'.cell? ⟨g, k, none⟩ = W.cell? ⟨g, k, none⟩ := fun k => (hb.cell (p := ⟨g, k, none⟩) hg).trans (h5.cell (p := ⟨g, k, none⟩) hg).symm
  exact ⟨(hc _).trans h0, (hc _).trans h1, (hc _).trans h2, (hc _).trans h3, (hc _).trans h4, hb⟩
theorem keepR {w2 W W' : World} {gi g i : Nat} {a b c d e : Value} (hg : g < w2.heap.size) (hgi : w2.heap.size ≤ gi) (h : W.cell? ⟨g, i * 5, none⟩ = some a ∧ W.cell? ⟨g, i * 5 + 1, none⟩ = some b ∧ W.cell? ⟨g, i * 5 + 2, none⟩ = some c ∧ W.cell? ⟨g, i * 5 + 3, none⟩ = some d ∧ W.cell? ⟨g, i * 5 + 4, none⟩ = some e ∧ Below w2.heap.size w2 W) (k : W.grownBy W' (some gi)) :
    W'.cell? ⟨g, i * 5, none⟩ = some a ∧ W'.cell? ⟨g, i * 5 + 1, none⟩ = some b ∧ W'.cell? ⟨g, i * 5 + 2, none⟩ = some c ∧ W'.cell? ⟨g, i * 5 + 3, none⟩ = some d ∧ W'.cell? ⟨g, i * 5 + 4, none⟩ = some e ∧ Below w2.heap.size w2 W' :=
  keep5 hg h (only_new h.2.2.2.2.2 k h.2.2.2.2.2.size hgi)
theorem keepB {w2 W W' : World} {g i : Nat} {a b c d e : Value} (hg : g < w2.heap.size) (h : W.cell? ⟨g, i * 5, none⟩ = some a ∧ W.cell? ⟨g, i * 5 + 1, none⟩ = some b ∧ W.cell? ⟨g, i * 5 + 2, none⟩ = some c ∧ W.cell? ⟨g, i * 5 + 3, none⟩ = some d ∧ W.cell? ⟨g, i * 5 + 4, none⟩ = some e ∧ Below w2.heap.size w2 W) (k : Below W.heap.size W W') :
    W'.cell? ⟨g, i * 5, none⟩ = some a ∧ W'.cell? ⟨g, i * 5 + 1, none⟩ = some b ∧ W'.cell? ⟨g, i * 5 + 2, none⟩ = some c ∧ W'.cell? ⟨g, i * 5 + 3, none⟩ = some d ∧ W'.cell? ⟨g, i * 5 + 4, none⟩ = some e ∧ Below w2.heap.size w2 W' :=
  keep5 hg h (blater h.2.2.2.2.2 (Nat.le_refl _) k)
theorem isval_of {w2 W : World} {g i : Nat} {xk xn : Int} {xu : UInt64} {xb : List UInt8} {xl : List Int} {B B' : Option Addr} {lb ll d d' : Nat} {a b c dd e : Value} (hlb : xb.length = lb) (hll : xl.length = ll) (r1 : Reads w2 w2.heap.size 1 B lb (bv xb)) (r2 : Reads w2 w2.heap.size 1 B' ll (iv xl))
    (h : W.cell? ⟨g, i * 5, none⟩ = some a ∧ W.cell? ⟨g, i * 5 + 1, none⟩ = some b ∧ W.cell? ⟨g, i * 5 + 2, none⟩ = some c ∧ W.cell? ⟨g, i * 5 + 3, none⟩ = some dd ∧ W.cell? ⟨g, i * 5 + 4, none⟩ = some e ∧ Below w2.heap.size w2 W) :
    IsVal W W.heap.size (.agg #[.int .i64 xk, .int .u64 (xu.toNat : Int), .int .i64 xn, .slice B lb d, .slice B' ll d']) ⟨xk, xu, xn, xb, xl⟩ := by
  subst hlb hll
  exact ⟨B, d, B', d', rfl, r1.later h.2.2.2.2.2, r2.later h.2.2.2.2.2⟩

theorem VOk.len {m : Nat} {x : Vl} (h : VOk m x) : x.b.length ≤ m ∧ x.l.length ≤ m := by
  rcases h with ⟨_, _, h1, h2⟩ | ⟨_, _, _, h1, h2⟩ | ⟨_, _, _, h1, h2⟩ | ⟨_, _, _, h1, h2, _⟩
  · rw [h1, h2]; exact ⟨Nat.zero_le _, Nat.zero_le _⟩
  · rw [h1, h2]; exact ⟨Nat.zero_le _, Nat.zero_le _⟩
  · rw [h2]; exact ⟨h1, Nat.zero_le _⟩
  · rw [h1]; exact ⟨Nat.zero_le _, h2⟩
theorem vals_two {w1 W2 w3 : World} {base n : Nat} {v v' : Value} {cells : List Value} {vs : List Vl} (hown : w1.ownsRow base 46 5 v n cells) (hvr : ValRow w1 w1.heap.size v.ownBlock cells vs) (hB : Below w1.heap.size w1 W2) (x y : Vl) (hx1 : x.b = []) (hx2 : x.l = []) (hy1 : y.b = []) (hy2 : y.l = [])
    (hgrow : W2.grownBy w3 v.ownBlock) (hat : v'.ownBlock = v.ownBlock ∨ v'.ownBlock = some W2.heap.size) :
    ValRow w3 w3.heap.size v'.ownBlock (cells ++ [.int .i64 x.kind, .int .u64 (x.u.toNat : Int), .int .i64 x.n, .slice none 0 0, .slice none 0 0, .int .i64 y.kind, .int .u64 (y.u.toNat : Int), .int .i64 y.n, .slice none 0 0, .slice none 0 0]) (vs ++ [x, y]) := by
  have hN : ∀ ad : Addr, (none : Option Addr) = some ad → ad.block < W2.heap.size ∧ some ad.block ≠ v.ownBlock := fun ad e => by cases e
  have h1 := ((hvr.below hB).more hB.size).snoc x none none 0 0 0 0 (by rw [hx1]; rfl) (by rw [hx2]; rfl) (by rw [hx1]; exact Reads.none_) (by rw [hx2]; exact Reads.none_) hN hN
  have h2 := h1.snoc y none none 0 0 0 0 (by rw [hy1]; rfl) (by rw [hy2]; rfl) (by rw [hy1]; exact Reads.none_) (by rw [hy2]; exact Reads.none_) hN hN
  have h3 := (h2.grown hgrow (Nat.le_refl _) hat).more hgrow.size
  simpa using h3

set_option maxRecDepth 10000 in
set_option maxHeartbeats 8000000 in
theorem wireRound_walk (a : Option Addr) (len cap : Nat) (zs : List Int) (u n : Int) (w : World) (hr : IsRow .i64 w a len cap zs) (hu : (Lit.int .u64 u).wf = true) (hn : (Lit.int .i64 n).wf = true) :
    Calls Try.prog 9 #[.slice a len cap, .int .u64 u, .int .i64 n] w fun e W' => e = .returned (.bool true) ∧ Below w.heap.size w W' := by
  obtain ⟨i0, hi, hz0, hz1, hz2⟩ := info_parts infoVal
  obtain ⟨ks, hkl, hlc, hcm, hrd, hwf⟩ := isRow_ints hr
  obtain ⟨uu, rfl⟩ := wf_u64 hu
  have HNR := Lib.hid (show inr n from wf_bd hn)
  have hvals := vals_reads a len cap ks hkl (by omega) (fun n hn => wf_bd (hwf n hn)) w hrd
  clear hkl hcm hlc hwf hr hu hn
  go_enter Try.func9, Try.ntmps9
  go_wp2_with fail
  refine hvals.mono ?_
  rintro e w1 ⟨A1, n1, c1, vs, rfl, hvl, hc1, hv1, hn8, hok, hb1⟩
  clear hvals
  have HVL := Lib.hid hvl
  have HOK := Lib.hid hok
  obtain ⟨cells, hown1, hvr1⟩ := hv1
  rw [hvl] at hown1
  clear hvl hok
  have hBn : Below w1.heap.size w1 (w1.alloc (.cells [.int .i64 0, .int .u64 (uu.toNat : Int), .int .i64 0, .slice none 0 0, .slice none 0 0, .int .i64 1, .int .u64 0, .int .i64 n, .slice none 0 0, .slice none 0 0].toArray 46)) := (Below.refl _ _).alloc (Nat.le_refl _) _
  have hrW := Reads.newS w1 [.int .i64 0, .int .u64 (uu.toNat : Int), .int .i64 0, .slice none 0 0, .slice none 0 0, .int .i64 1, .int .u64 0, .int .i64 n, .slice none 0 0, .slice none 0 0] 46 5 2 rfl
  have hownW := own_below hown1 hBn
  have hsw := hb1.size
  go_wp2_with (at_builtin; refine wpList_append_any _ rfl _ _ 34 rfl w.heap.size 46 i0 (.agg #[.int .i64 0, .int .u64 0, .int .i64 0, .slice none 0 0, .slice none 0 0]) 5 72 Try.underlying34 hi hz0 hz1 hz2 rfl (by decide) _ _ _ rfl hownW _ _ 2 2 _ rfl hrW (by simp [Value.oneCell']) (by unfold maxLen; omega) (by omega) (by simp; omega) ?_; intro v3 w3 hown3 hgrow hat)
  have hgrow : (w1.alloc (.cells [.int .i64 0, .int .u64 (uu.toNat : Int), .int .i64 0, .slice none 0 0, .slice none 0 0, .int .i64 1, .int .u64 0, .int .i64 n, .slice none 0 0, .slice none 0 0].toArray 46)).grownBy w3 (Value.slice A1 n1 c1).ownBlock := hgrow
  have hvr3 : ValRow w3 w3.heap.size v3.ownBlock (cells ++ [.int .i64 0, .int .u64 (uu.toNat : Int), .int .i64 0, .slice none 0 0, .slice none 0 0, .int .i64 1, .int .u64 0, .int .i64 n, .slice none 0 0, .slice none 0 0]) (vs ++ [⟨0, uu, 0, [], []⟩, ⟨1, 0, n, [], []⟩]) :=
    vals_two hown1 hvr1 hBn ⟨0, uu, 0, [], []⟩ ⟨1, 0, n, [], []⟩ rfl rfl rfl rfl hgrow hat
  have hb3 := vals_below hb1 hown1 hBn hgrow
  obtain ⟨A3, c3, rfl, hc3, _, hown3⟩ := own_reads hown3
  obtain ⟨xs, hxs⟩ : ∃ xs, vs ++ [⟨0, uu, 0, [], []⟩, ⟨1, 0, n, [], []⟩] = xs := ⟨_, rfl⟩
  have HXL := Lib.hid (show xs.length = n1 + 2 by rw [← hxs, List.length_append, HVL.out]; rfl)
  have HXO := Lib.hid (show ∀ x ∈ xs, VOk 10 x by
    intro x hx
    rw [← hxs] at hx
    rcases List.mem_append.1 hx with h | h
    · exact HOK.out x h
    · rcases List.mem_cons.1 h with h | h
      · subst h; exact .inl ⟨rfl, rfl, rfl, rfl⟩
      · obtain rfl : x = ⟨1, 0, n, [], []⟩ := by simpa using h
        exact .inr (.inl ⟨rfl, rfl, HNR.out, rfl, rfl⟩))
  rw [hxs] at hvr3
  have hv3 : ValsAt w3 w.heap.size (.slice A3 (n1 + 2) c3) xs := ⟨_, by rw [HXL.out]; exact hown3, hvr3⟩
  obtain ⟨bs, hbs⟩ : ∃ bs, V.encVs xs = bs := ⟨_, rfl⟩
  obtain ⟨kb, hkb⟩ : ∃ k, bs.length = k := ⟨_, rfl⟩
  have hkb2 : kb ≤ 2000 := by
    have h1 := V.encVs_len HXO.out
    rw [hbs, hkb] at h1
    have h3 : xs.length * (10 + 10 * 10) ≤ 10 * (10 + 10 * 10) := Nat.mul_le_mul (by rw [HXL.out]; omega) (by omega)
    omega
  have HBS := Lib.hid hbs
  have HKB := Lib.hid hkb
  clear hxs hvr3 hown3 hgrow hat hownW hrW hBn hown1 hvr1 hbs hkb hb1 hsw
  obtain ⟨N, hN⟩ : ∃ N, n1 + 2 = N := ⟨_, rfl⟩
  rw [hN] at hv3 hc3 HXL ⊢
  have hN10 : N ≤ 10 := by omega
  clear hN
  go_wp2_with fail
  refine (encode_reads _ 10 N c3 A3 xs kb bs HBS.out HKB.out HXL.out (by omega) HXO.out (by omega) _ hv3).mono ?_
  rintro e w4 ⟨A4, c4, rfl, hc4, hown4, hd4⟩
  go_wp2_with fail
  refine (newIn_any A4 kb c4 bs HKB.out (by omega) _ (Reads.of_own hown4)).mono ?_
  rintro e w5 ⟨g1, rfl, hg1, hin5, hd5⟩
  have hB5 := blater hd4 (Nat.le_refl _) hd5
  have hg1w : w3.heap.size ≤ g1 := by have := hd4.size; omega
  clear hd4 hd5 hown4
  go_wp2_with fail
  go_loopw [9] (fun ix wr => ∃ (i : Nat), i ≤ N ∧ ix = .int .i64 (i : Int) ∧ InAt 75 wr g1 (V.encVs (xs.drop i), 0) ∧ Hid ((V.encVs (xs.drop i)).length ≤ 2000) ∧ Below w3.heap.size w3 wr) (fun ix _ => N - (intOf ix).toNat)
  case atStart => exact ⟨0, Nat.zero_le _, rfl, by rw [List.drop_zero, HBS.out]; exact hin5, by show (V.encVs (xs.drop 0)).length ≤ _; rw [List.drop_zero, HBS.out, HKB.out]; exact hkb2, hB5⟩
  case round =>
    obtain ⟨i, hi1, rfl, hin, hle, hB⟩ := hrel
    by_cases hlt : i < N
    · obtain ⟨g, x, D, d, D', d', rfl, _, hgl, hx, c0, c1, c2, c3, c4, r1, r2⟩ := val_at hv3 (k := i) (by rw [HXL.out]; exact hlt)
      have hok := HXO.out x (List.mem_of_getElem? hx)
      have hdrop := V.encVs_drop hx
      have hrx : V.read x.kind 10 (V.encVs (xs.drop i), 0) = (x, (V.encVs (xs.drop (i + 1)), 0)) := by rw [hdrop, V.read_enc hok]
      have hle2 : (V.encVs (xs.drop (i + 1))).length ≤ 2000 := by have h1 := hle.out; rw [hdrop, List.length_append] at h1; omega
      have hxb := hok.len
      obtain ⟨xk, xu, xn, xb, xl⟩ := x
      simp only at c0 c1 c2 c3 c4 r1 r2 hxb hrx
      obtain ⟨lb, hlb⟩ : ∃ k, xb.length = k := ⟨_, rfl⟩
      obtain ⟨ll, hll⟩ : ∃ k, xl.length = k := ⟨_, rfl⟩
      rw [hlb] at c3 r1 hxb
      rw [hll] at c4 r2 hxb
      have HLB := Lib.hid hlb
      have HLL := Lib.hid hll
      have HRX := Lib.hid hrx
      have hsl : (V.encVs (xs.drop i)).length ≤ 1000000 := by have := hle.out; omega
      have HSL := Lib.hid hsl
      clear hlb hll hrx hsl hx hok hdrop
      have hC : ∀ k, wr.cell? ⟨g, k, none⟩ = w3.cell? ⟨g, k, none⟩ := fun k => hB.cell (p := ⟨g, k, none⟩) hgl
      have hS0 := Lib.hid (show wr.drew.cell? ⟨g, i * 5, none⟩ = some (.int .i64 xk) ∧ wr.drew.cell? ⟨g, i * 5 + 1, none⟩ = some (.int .u64 (xu.toNat : Int)) ∧ wr.drew.cell? ⟨g, i * 5 + 2, none⟩ = some (.int .i64 xn) ∧ wr.drew.cell? ⟨g, i * 5 + 3, none⟩ = some (.slice D lb d) ∧ wr.drew.cell? ⟨g, i * 5 + 4, none⟩ = some (.slice D' ll d') ∧ Below w3.heap.size w3 wr.drew from
        ⟨(hC _).trans c0, (hC _).trans c1, (hC _).trans c2, (hC _).trans c3, (hC _).trans c4, hB.drew⟩)
      have hinD := Lib.hid (show InAt 75 wr.drew g1 (V.encVs (xs.drop i), 0) from hin)
      clear hC c0 c1 c2 c3 c4 hin
      have hi1 : (0 : Int) ≤ (i : Int) := by omega
      have hi2 : (i : Int) < (N : Int) := by omega
      go_wp2_with fail
      go_region_held3 (fun w' => w'.cell? ⟨g, i * 5, none⟩ = some (.int .i64 xk) ∧ w'.cell? ⟨g, i * 5 + 1, none⟩ = some (.int .u64 (xu.toNat : Int)) ∧ w'.cell? ⟨g, i * 5 + 2, none⟩ = some (.int .i64 xn) ∧ w'.cell? ⟨g, i * 5 + 3, none⟩ = some (.slice D lb d) ∧ w'.cell? ⟨g, i * 5 + 4, none⟩ = some (.slice D' ll d') ∧ Below w3.heap.size w3 w')
        (first | exact hS0.out | assumption | exact keepR hgl hg1w (by assumption) (by assumption) | exact keepB hgl (by assumption) (by assumption))
        (first
          | (go_at_call 22; refine (read_val _ _ g1 xk 10 (by omega) (by omega) _ HRX.out HSL.out _ hinD.out).mono ?_; rintro e w7 ⟨v7, rfl, hv7, hin7, hg7⟩)
          | (go_at_call 21; refine (same_any _ _ ⟨xk, xu, xn, xb, xl⟩ (by show xb.length ≤ _; rw [HLB.out]; omega) (by show xl.length ≤ _; rw [HLL.out]; omega) _ (by assumption) (isval_of HLB.out HLL.out r1 r2 (by assumption))).mono ?_; rintro e w8 ⟨rfl, hd8⟩)
          | (go_at_call 24; refine (inErr_val 0 g1 (V.encVs (xs.drop (i + 1)), 0) rfl _ (InAt.below (by assumption) (by assumption))).mono ?_; rintro e w9 ⟨rfl, rfl⟩))
      have hS9 := (by assumption : _ ∧ _ ∧ _ ∧ _ ∧ _ ∧ Below w3.heap.size w3 w8)
      have hin9 := hin7.below hd8
      go_wp2_with fail
      go_roundw
      case rel => exact ⟨i + 1, by omega, by go_num, hin9, hle2, hS9.2.2.2.2.2⟩
      case measure => simp [intOf]; omega
    · have hd : xs.drop i = [] := List.drop_eq_nil_of_le (by rw [HXL.out]; omega)
      have hin : InAt 75 wr g1 ([], 0) := by rw [hd] at hin; exact hin
      clear hd
      go_wp2_with fail
      refine (inEnd_val 0 g1 _ (show V.fin ([], 0) = 0 by decide) _ hin).mono ?_
      rintro e w7 ⟨rfl, rfl⟩
      go_wp2_with fail
      refine (lives_any _).mono ?_
      rintro e w8 ⟨rfl, hd8⟩
      have hb8 := blater (blater hb3 (Nat.le_refl _) hB) (Nat.le_refl _) hd8
      go_wp2_with fail
      go_ret
      exact ⟨rfl, hb8⟩
end Go.Proofs.Ytkjlafklhdojmaa
