/- The law WirePrefix, walked. -/
import Derived.Test.YtkjlafklhdojmaaWirePlain4
import Derived.Test.YtkjlafklhdojmaaWireVals2
namespace Go.Proofs.Ytkjlafklhdojmaa
open Go.RowKit
set_option linter.unusedVariables false
namespace V
theorem rdN_le {α : Type} (f : St → α × St) (hf : ∀ s, (f s).2.1.length ≤ s.1.length) : ∀ (k : Nat) (s : St), (rdN f k s).2.1.length ≤ s.1.length
  | 0, s => Nat.le_refl _
  | k + 1, s => by
    unfold rdN
    split
    · exact Nat.le_trans (rdN_le f hf k (f s).2) (hf s)
    · exact Nat.le_refl _
theorem next_le (s : St) : (next s).2.1.length ≤ s.1.length := by
  obtain ⟨bs, e⟩ := s
  cases bs with
  | nil => exact Nat.le_refl _
  | cons b bs => unfold next; simp only; split <;> simp
theorem rdList_le {α : Type} (f : St → α × St) (hf : ∀ s, (f s).2.1.length ≤ s.1.length) (most : Int) (s : St) : (rdList f most s).2.1.length ≤ s.1.length := by
  have h := Nat.le_trans (rdN_le f hf (rdUint s).1.toNat (lim s most)) (lim_le s most)
  unfold rdList
  split
  · exact h
  · exact h
theorem read_le (kind most : Int) (s : St) : (read kind most s).2.1.length ≤ s.1.length := by
  unfold read
  split
  · exact rdUint_le s
  · split
    · exact rdUint_le s
    · split
      · exact rdList_le next next_le most s
      · exact rdList_le rdInt rdUint_le most s
/-- Where a reader of a cut encoding stands. -/
def Cut (rest : List UInt8) (s : St) : Prop := (∃ p q, q ≠ [] ∧ rest = p ++ q ∧ s = (p, 0)) ∨ s.2 = 7
theorem encVs_drop {vs : List Vl} {i : Nat} {x : Vl} (h : vs[i]? = some x) : encVs (vs.drop i) = encV x ++ encVs (vs.drop (i + 1)) := by
  obtain ⟨hlt, he⟩ := List.getElem?_eq_some_iff.1 h
  rw [List.drop_eq_getElem_cons hlt, he]; rfl
theorem Cut.step {vs : List Vl} {i : Nat} {x : Vl} {s : St} (hx : vs[i]? = some x) (hok : VOk 10 x) (h : Cut (encVs (vs.drop i)) s) : Cut (encVs (vs.drop (i + 1))) (read x.kind 10 s).2 := by
  rcases h with ⟨p, q, hq, he, rfl⟩ | h
  · rw [encVs_drop hx] at he
    rcases split_pre he with ⟨t, h1, h2⟩ | ⟨t, h1, h2⟩
    · subst h1
      rw [read_enc hok]
      exact .inl ⟨t, q, hq, h2, rfl⟩
    · exact .inr (read_short hok h1 h2)
  · rw [read_err x.kind 10 (by rw [h]; decide)]
    exact .inr h
theorem Cut.done {s : St} (h : Cut [] s) : s.2 = 7 := by
  rcases h with ⟨p, q, hq, he, _⟩ | h
  · exact absurd (List.append_eq_nil_iff.1 he.symm).2 hq
  · exact h
theorem fin_7 {s : St} (h : s.2 = 7) : fin s = 7 := by unfold fin; rw [if_neg (fun h' => by rw [h] at h'; exact absurd h'.1 (by decide))]; exact h
end V
/-- A reader stays while another reader of its kind turns. -/
theorem InAt.beside {W W' : World} {g g' : Nat} {T T' : TypeId} {s s' : V.St} (h : InAt T W g s) (h2 : InAt T' W g' s') (hne : g ≠ g') (hg : W.grownBy W' (some g')) : InAt T W' g s := by
  have hlt := h.lt
  obtain ⟨A, c, h1, h3, h4, h5⟩ := h
  obtain ⟨A', c', k1, _⟩ := h2
  refine ⟨A, c, h1.kept hg (by intro e; injection e with e; exact hne e), h3, h4, h5.1, fun hn => ?_⟩
  obtain ⟨ad, e, hb, hc⟩ := h5.2 hn
  refine ⟨ad, e, hb, fun j u hu => ?_⟩
  rw [← hc j u hu]
  refine World.cell?_of_block ?_
  rw [block_of_add]
  refine hg.block _ (by omega) (fun e2 => ?_)
  injection e2 with e2
  obtain ⟨y, hy⟩ : ∃ y, s.1[0]? = some y := ⟨_, List.getElem?_eq_getElem hn⟩
  have h0 := hc 0 _ (bv_getElem _ _ _ hy)
  rw [Addr.add_zero'] at h0
  unfold World.cell? at h0
  rw [e2, show W.heap[g']? = _ from k1] at h0
  obtain ⟨blk, off, part⟩ := ad
  simp only at h0
  match off, h0 with
  | 0, h0 => cases part <;> simp at h0
  | 1, h0 => cases part <;> simp at h0
  | o + 2, h0 => cases part <;> simp at h0

theorem encode_reads (base m n c : Nat) (A : Option Addr) (vs : List Vl) (k : Nat) (bs : List UInt8) (hbs : V.encVs vs = bs) (hk : bs.length = k) (hn : vs.length = n) (hn2 : n ≤ 20) (hok : ∀ x ∈ vs, VOk m x) (hm : m ≤ 1000) (w : World) (h : ValsAt w base (.slice A n c) vs) :
    Calls Try.prog 31 #[.slice A n c] w fun e w' => ∃ A' c', e = .returned (.slice A' k c') ∧ k ≤ c' ∧ w'.ownsRow w.heap.size 5 1 (.slice A' k c') k (bv bs) ∧ Below w.heap.size w w' := by
  subst hbs hk
  refine (encode_any base m n c A vs hn hn2 hok hm w h).mono ?_
  rintro e w' ⟨v, rfl, hown, hb⟩
  obtain ⟨A2, c2, rfl, hc, _, h2⟩ := own_reads hown
  exact ⟨A2, c2, rfl, hc, h2, hb⟩
theorem vals_reads (A : Option Addr) (len cap : Nat) (ks : List Int) (hkl : ks.length = len) (hcap : len ≤ 9223372036854775807) (hwf : ∀ n ∈ ks, inr n) (w : World) (hrd : Reads w w.heap.size 1 A len (iv ks)) :
    Calls Try.prog 18 #[.slice A len cap] w fun e w' => ∃ A' n c vs, e = .returned (.slice A' n c) ∧ vs.length = n ∧ n ≤ c ∧ ValsAt w' w.heap.size (.slice A' n c) vs ∧ n ≤ 8 ∧ (∀ x ∈ vs, VOk 10 x) ∧ Below w.heap.size w w' := by
  refine (vals_any A len cap ks hkl hcap hwf w hrd).mono ?_
  rintro e w' ⟨v, vs, rfl, hv, hl, hok, hb⟩
  obtain ⟨cells, h1, h2⟩ := id hv
  obtain ⟨A2, c2, rfl, hc, _, _⟩ := own_reads h1
  exact ⟨A2, _, c2, vs, rfl, rfl, hc, hv, hl, hok, hb⟩
theorem read_le_any (g : Nat) (kind most : Int) (hm1 : -9223372036854775808 ≤ most) (hm2 : most ≤ 9223372036854775807) (s s' : V.St) (hx : (V.read kind most s).2 = s') (hsl : s.1.length ≤ 1000000) (w : World) (h : InAt 75 w g s) :
    Calls Try.prog 22 #[.pointer (some ⟨g, 0, none⟩), .int .i64 kind, .int .i64 most] w fun e w' =>
      ∃ v, e = .returned v ∧ InAt 75 w' g s' ∧ w.grownBy w' (some g) := by
  subst hx
  refine (read_any g kind most hm1 hm2 s hsl w h).mono ?_
  rintro e w' ⟨v, h1, _, h2, h3⟩
  exact ⟨v, h1, h2, h3⟩

set_option maxHeartbeats 4000000 in
theorem wirePrefix_walk (a : Option Addr) (len cap : Nat) (zs : List Int) (cut c : Int) (w : World) (hr : IsRow .i64 w a len cap zs) (hcut : (Lit.int .i64 cut).wf = true) (hc : (Lit.int .u8 c).wf = true) :
    Calls Try.prog 10 #[.slice a len cap, .int .i64 cut, .int .u8 c] w fun e W' => e = .returned (.bool true) ∧ Below w.heap.size w W' := by
  obtain ⟨i0, hi, hz0, hz1, hz2⟩ := info_parts infoByte
  obtain ⟨ks, hkl, hlc, hcm, hrd, hwf⟩ := isRow_ints hr
  obtain ⟨cc, rfl⟩ := wf_u8 hc
  have hcut := wf_bd hcut
  have hvals := vals_reads a len cap ks hkl (by omega) (fun n hn => wf_bd (hwf n hn)) w hrd
  clear hkl hcm hlc hwf hr hc
  have HCUT := Lib.hid hcut
  clear hcut
  go_enter Try.func10, Try.ntmps10
  go_wp2_with fail
  refine hvals.mono ?_
  rintro e w1 ⟨A1, n1, c1, vs, rfl, hvl, hc1, hv1, hn8, hok, hb1⟩
  clear hvals
  have HVL := Lib.hid hvl
  have HOK := Lib.hid hok
  obtain ⟨bs, hbs⟩ : ∃ bs, V.encVs vs = bs := ⟨_, rfl⟩
  obtain ⟨kb, hkb⟩ : ∃ k, bs.length = k := ⟨_, rfl⟩
  have hkb2 : kb ≤ 1000 := by
    have h1 := V.encVs_len hok
    rw [hbs, hkb] at h1
    have h3 : vs.length * (10 + 10 * 10) ≤ 8 * (10 + 10 * 10) := Nat.mul_le_mul (by omega) (by omega)
    omega
  have HBS := Lib.hid hbs
  have HKB := Lib.hid hkb
  clear hvl hok hbs hkb
  go_wp2_with fail
  refine (encode_reads _ 10 n1 c1 A1 vs kb bs HBS.out HKB.out HVL.out (by omega) HOK.out (by omega) _ hv1).mono ?_
  rintro e w2 ⟨A2, c2, rfl, hc2, hown2, hd2⟩
  have hb2 := blater hb1 (Nat.le_refl _) hd2
  have hv2 := hv1.later hd2
  by_cases hk0 : kb = 0
  · subst hk0
    go_wp2_with fail
    refine (newIn_any none 0 0 [] rfl (by omega) _ Reads.none_).mono ?_
    rintro e w3 ⟨g, rfl, hg, hin3, hd3⟩
    have hb3 := blater hb2 (Nat.le_refl _) hd3
    go_wp2_with fail
    refine (inEnd_val 0 g _ (show V.fin ([], 0) = 0 by decide) _ hin3).mono ?_
    rintro e w4 ⟨rfl, rfl⟩
    go_wp2_with fail
    refine (lives_any _).mono ?_
    rintro e w5 ⟨rfl, hd5⟩
    have hb5 := blater hb3 (Nat.le_refl _) hd5
    go_wp2_with fail
    go_ret
    exact ⟨rfl, hb5⟩
  · have hk1 : (1 : Int) ≤ (kb : Int) := by omega
    have hab := arN_bd cut kb hk1
    obtain ⟨kc, hkc⟩ := Int.eq_ofNat_of_zero_le hab.1
    have hkcl : kc < kb := by omega
    have hca := fun W => around_nat cut kb kc HCUT.out.1 HCUT.out.2 hk1 (by omega) hkc W
    have hkbe : ((kb : Int) == 0) = false := by rw [beq_eq_false_iff_ne]; omega
    clear hab hkc hk0
    go_wp2_with fail
    refine (hca _).mono ?_
    rintro e w3 ⟨rfl, rfl⟩
    clear hca
    have hrt := (Reads.of_own hown2).take (k := kc) (by omega)
    rw [← few_take] at hrt
    have HTL := Lib.hid (show (bs.take kc).length = kc by rw [List.length_take, HKB.out]; omega)
    go_wp2_with fail
    refine (newIn_any A2 kc c2 (bs.take kc) HTL.out (by omega) _ hrt).mono ?_
    rintro e w3 ⟨g1, rfl, hg1, hin3, hd3⟩
    have hg1l := hin3.lt
    have hown3 := own_below hown2 hd3
    clear hrt hd2 hv1
    have hkt := Lib.hid (show bs.take kb = bs from List.take_of_length_le (by rw [HKB.out]; omega))
    go_wp2_with fail
    refine (few_reads A2 kb c2 kb bs kb HKB.out hc2 (by have := own_cap hown2; omega) (by omega) (by rw [hkt.out]; exact HKB.out) _ (Reads.of_own hown3)).mono ?_
    rintro e w4 ⟨A4, c4, rfl, hc4, hown4, hd4⟩
    rw [hkt.out] at hown4
    have hin4 := hin3.below hd4
    have hs2 := hd3.size
    have hs3 := hd4.size
    have hB4 := blater hd3 (Nat.le_refl _) hd4
    have hlo4 := own_from hown4
    clear hd3 hd4 hown3 hin3
    go_wp2_with (at_builtin; refine wpList_append_any _ rfl _ _ 24 rfl w3.heap.size 5 i0 (.int .u8 0) 1 1 Try.underlying24 hi hz0 hz1 hz2 rfl (by decide) _ _ _ rfl (hown4.alloc _) _ _ 1 1 [.int .u8 (cc.toNat : Int)] rfl (Reads.new w4 [.int .u8 (cc.toNat : Int)] 5 1 rfl) (by simp [Value.oneCell']) (by unfold maxLen; omega) (by omega) (by simp; omega) ?_; intro v5 w5 hown5 hgrow hat)
    have hgrow : (w4.alloc (.cells #[.int .u8 (cc.toNat : Int)] 5)).grownBy w5 (Value.slice A4 kb c4).ownBlock := hgrow
    rw [bv_snoc] at hown5
    obtain ⟨A5, c5, rfl, hc5, _, hown5⟩ := own_reads hown5
    have hB5 := (hB4.alloc hB4.size (.cells #[.int .u8 (cc.toNat : Int)] 5)).grown hgrow (by simp; omega) (fun k e => by have := (hlo4 k e).1; omega)
    have hin5 := (hin4.below ((Below.refl _ _).alloc (Nat.le_refl _) (.cells #[.int .u8 (cc.toNat : Int)] 5))).kept hgrow (fun k e => by have := (hlo4 k e).1; omega)
    have HBC := Lib.hid (show (bs ++ [cc]).length = kb + 1 by simp [HKB.out])
    clear hgrow hat hown4 hB4 hin4
    refine (newIn_any A5 (kb + 1) c5 (bs ++ [cc]) HBC.out (by omega) _ (Reads.of_own hown5)).mono ?_
    rintro e w6 ⟨g2, rfl, hg2, hin6b, hd6⟩
    have hB6 := blater hB5 (Nat.le_refl _) hd6
    have hin6 := hin5.below hd6
    have hg12 : g1 < g2 := by have := hin5.lt; omega
    have hg2w : w2.heap.size ≤ g2 := by omega
    clear hd6 hB5 hin5 hown5
    go_wp2_with fail
    go_loopw [12] (fun ix wr => ∃ (i : Nat) (s1 : V.St), i ≤ n1 ∧ ix = .int .i64 (i : Int) ∧ InAt 75 wr g1 s1 ∧ InAt 75 wr g2 (V.encVs (vs.drop i) ++ [cc], 0) ∧ Hid (V.Cut (V.encVs (vs.drop i)) s1 ∧ s1.1.length ≤ 1000 ∧ (V.encVs (vs.drop i) ++ [cc]).length ≤ 2000) ∧ Below w2.heap.size w2 wr) (fun ix _ => n1 - (intOf ix).toNat)
    case atStart =>
      refine ⟨0, (bs.take kc, 0), Nat.zero_le _, rfl, hin6, by rw [List.drop_zero, HBS.out]; exact hin6b, ⟨.inl ⟨bs.take kc, bs.drop kc, ?_, ?_, rfl⟩, ?_, ?_⟩, hB6⟩
      · intro e
        have := congrArg List.length e
        rw [List.length_drop, HKB.out] at this
        simp at this; omega
      · rw [List.drop_zero, HBS.out, List.take_append_drop]
      · show (bs.take kc).length ≤ 1000; rw [HTL.out]; omega
      · rw [List.drop_zero, HBS.out, HBC.out]; omega
    case round =>
      obtain ⟨i, s1, hi1, rfl, hin, hlong, hst, hB⟩ := hrel
      by_cases hlt : i < n1
      · obtain ⟨g, x, _, _, _, _, rfl, _, hgl, hx, c0, _⟩ := val_at hv2 (k := i) (by rw [HVL.out]; exact hlt)
        have hc0 := (hB.cell (p := ⟨g, i * 5, none⟩) hgl).trans c0
        have hok := HOK.out x (List.mem_of_getElem? hx)
        have hcutn := V.Cut.step hx hok hst.out.1
        have hdrop := V.encVs_drop hx
        have hle1 := Nat.le_trans (V.read_le x.kind 10 s1) hst.out.2.1
        have hrl : (V.read x.kind 10 (V.encVs (vs.drop i) ++ [cc], 0)).2 = (V.encVs (vs.drop (i + 1)) ++ [cc], 0) := by
          rw [hdrop, List.append_assoc, V.read_enc hok]
        have hle2 : (V.encVs (vs.drop (i + 1)) ++ [cc]).length ≤ 2000 := by
          have h1 := hst.out.2.2
          rw [hdrop] at h1
          simp only [List.length_append] at h1 ⊢
          omega
        have hst1 := hst.out.2.1
        have hst2 := hst.out.2.2
        obtain ⟨s1n, hs1n⟩ : ∃ s, (V.read x.kind 10 s1).2 = s := ⟨_, rfl⟩
        obtain ⟨xk, hxk⟩ : ∃ k, x.kind = k := ⟨_, rfl⟩
        rw [hs1n] at hcutn hle1
        rw [hxk] at hs1n hrl hc0
        have HS1 := Lib.hid hs1n
        have HRL := Lib.hid hrl
        have HCN := Lib.hid hcutn
        clear hs1n hrl hcutn hdrop hxk c0 hx hok
        have hi1 : (0 : Int) ≤ (i : Int) := by omega
        have hi2 : (i : Int) < (n1 : Int) := by omega
        go_wp2_with fail
        refine (read_le_any g1 xk 10 (by omega) (by omega) s1 s1n HS1.out (by omega) _ hin).mono ?_
        rintro e w7 ⟨v7, rfl, hin7, hg7⟩
        have hB7 := only_new hB hg7 hB.size hg1
        have hlong7 := hlong.beside hin (by omega) hg7
        have hc0b := (hB7.cell (p := ⟨g, i * 5, none⟩) hgl).trans ((hB.cell (p := ⟨g, i * 5, none⟩) hgl).symm.trans hc0)
        go_wp2_with fail
        refine (read_le_any g2 xk 10 (by omega) (by omega) _ _ HRL.out (by show (V.encVs (vs.drop i) ++ [cc]).length ≤ _; omega) _ hlong7).mono ?_
        rintro e w8 ⟨v8, rfl, hlong8, hg8⟩
        have hB8 := only_new hB7 hg8 hB7.size hg2w
        have hin8 := hin7.kept hg8 (fun k e => by injection e with e; omega)
        go_wp2_with fail
        go_roundw
        case rel => exact ⟨i + 1, s1n, by omega, by go_num, hin8, hlong8, ⟨HCN.out, hle1, hle2⟩, hB8⟩
        case measure => simp [intOf]; omega
      · have hd : vs.drop i = [] := List.drop_eq_nil_of_le (by rw [HVL.out]; omega)
        have h7 := Lib.hid (show s1.2 = 7 from by have := hst.out.1; rw [hd] at this; exact V.Cut.done this)
        have hlong : InAt 75 wr g2 ([cc], 0) := by rw [hd] at hlong; exact hlong
        clear hd
        go_wp2_with fail
        refine (inErr_val 7 g1 s1 h7.out _ hin).mono ?_
        rintro e w7 ⟨rfl, rfl⟩
        go_wp2_with fail
        refine (inEnd_val 7 g1 s1 (V.fin_7 h7.out) _ hin).mono ?_
        rintro e w7 ⟨rfl, rfl⟩
        go_wp2_with fail
        refine (inErr_val 0 g2 _ rfl _ hlong).mono ?_
        rintro e w7 ⟨rfl, rfl⟩
        go_wp2_with fail
        refine (inEnd_val 8 g2 _ (by show (if _ ∧ _ then _ else _) = _; rw [if_pos ⟨rfl, by simp⟩]) _ hlong).mono ?_
        rintro e w7 ⟨rfl, rfl⟩
        go_wp2_with fail
        refine (lives_any _).mono ?_
        rintro e w8 ⟨rfl, hd8⟩
        have hb8 := blater (blater hb2 (Nat.le_refl _) hB) (Nat.le_refl _) hd8
        go_wp2_with fail
        go_ret
        exact ⟨rfl, hb8⟩
end Go.Proofs.Ytkjlafklhdojmaa
