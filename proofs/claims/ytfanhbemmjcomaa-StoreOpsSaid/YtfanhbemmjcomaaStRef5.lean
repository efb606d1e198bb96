/- The reference's records in memory; its Log. The reference's Get and Lookup. The reference's Lookup. -/
import Derived.Test.YtfanhbemmjcomaaStRef2
namespace Go.Proofs.Ytfanhbemmjcomaa
open Go.RowKit
set_option linter.unusedVariables false

/-- The slice of records at A holds the records L; all its blocks lie apart of F. -/
def RefAt (W : World) (F : Nat → Prop) (A : Option Addr) (n : Nat) (L : List S.R) : Prop :=
  L.length = n ∧ ∃ cells, Reads W W.heap.size 4 A n cells ∧ (∀ ad, A = some ad → 0 < n → (∃ ga, ad = ⟨ga, 0, none⟩) ∧ ¬ F ad.block) ∧ ∀ k r, L[k]? = some r → ∃ Ab cb, cells[k * 4]? = some (.bool r.ob) ∧ cells[k * 4 + 1]? = some (.slice Ab r.bs.length cb) ∧ cells[k * 4 + 2]? = some (.int .u64 (r.nm.toNat : Int)) ∧ cells[k * 4 + 3]? = some (.int .u64 (r.ky.toNat : Int)) ∧
    Reads W W.heap.size 1 Ab r.bs.length (bv r.bs) ∧ r.bs.length ≤ 65536 ∧ ∀ ad, Ab = some ad → ad.block < W.heap.size ∧ ¬ F ad.block
theorem RefAt.nil (W : World) (F : Nat → Prop) : RefAt W F none 0 [] := ⟨rfl, [], ⟨rfl, fun h => absurd h (by omega)⟩, fun ad e => (by cases e), fun k r h => (by simp at h)⟩
theorem RefAt.weaken {W : World} {F G : Nat → Prop} {A : Option Addr} {n : Nat} {L : List S.R} (h : RefAt W F A n L) (hG : ∀ i, G i → F i) : RefAt W G A n L := by
  obtain ⟨h0, cells, h1, h2, h3⟩ := h
  refine ⟨h0, cells, h1, fun ad e hn => ⟨(h2 ad e hn).1, fun hg => (h2 ad e hn).2 (hG _ hg)⟩, fun k o ho => ?_⟩
  obtain ⟨Ab, cb, c0, c1, c2, c3, h4, h5, h6⟩ := h3 k o ho
  exact ⟨Ab, cb, c0, c1, c2, c3, h4, h5, fun ad e => ⟨(h6 ad e).1, fun hg => (h6 ad e).2 (hG _ hg)⟩⟩
theorem RefAt.turn {W W' : World} {F G : Nat → Prop} {A : Option Addr} {n : Nat} {L : List S.R} (h : RefAt W F A n L) (ht : Turn F W W') (hG : ∀ i, G i → F i ∨ W.heap.size ≤ i) : RefAt W' G A n L := by
  obtain ⟨h0, cells, h1, h2, h3⟩ := h
  by_cases hn : n = 0
  · subst hn
    refine ⟨h0, cells, ⟨h1.1, fun h => absurd h (by omega)⟩, fun ad e h => absurd h (by omega), fun k o ho => ?_⟩
    have := (List.getElem?_eq_some_iff.1 ho).1
    omega
  have hn : 0 < n := by omega
  obtain ⟨ad0, e0, hb0, _⟩ := h1.2 hn
  refine ⟨h0, cells, (ht.reads h1 (Nat.le_refl _) (fun ad e => (h2 ad e hn).2)).more ht.size, fun ad e _ => ⟨(h2 ad e hn).1, fun hg => ?_⟩, fun k o ho => ?_⟩
  · rcases hG _ hg with h4 | h4
    · exact (h2 ad e hn).2 h4
    · rw [e0] at e; injection e with e; subst e; omega
  · obtain ⟨Ab, cb, c0, c1, c2, c3, h4, h6, h5⟩ := h3 k o ho
    refine ⟨Ab, cb, c0, c1, c2, c3, (ht.reads h4 (Nat.le_refl _) (fun ad e => (h5 ad e).2)).more ht.size, h6, fun ad e => ⟨Nat.lt_of_lt_of_le (h5 ad e).1 ht.size, fun hg => ?_⟩⟩
    rcases hG _ hg with h6 | h6
    · exact (h5 ad e).2 h6
    · have := (h5 ad e).1; omega
theorem RefAt.later {W W' : World} {F : Nat → Prop} {A : Option Addr} {n : Nat} {L : List S.R} (h : RefAt W F A n L) (hb : Below W.heap.size W W') : RefAt W' F A n L := h.turn (Turn.of_below F hb) (fun i hi => .inl hi)
theorem RefAt.take {W : World} {F : Nat → Prop} {A : Option Addr} {n k : Nat} {L : List S.R} (h : RefAt W F A n L) (hk : k ≤ n) : RefAt W F A k (L.take k) := by
  obtain ⟨h0, cells, h1, h2, h3⟩ := h
  have hcl := h1.1
  refine ⟨by rw [List.length_take, h0]; omega, cells.take (k * 4), ⟨by rw [List.length_take, hcl]; have := Nat.mul_le_mul_right 4 hk; omega, fun hn => ?_⟩, fun ad e hn => h2 ad e (by omega), fun j r hj => ?_⟩
  · obtain ⟨ad, e, hb, hc⟩ := h1.2 (by omega)
    exact ⟨ad, e, hb, fun j u hu => hc j u (by rw [List.getElem?_take] at hu; split at hu; exact hu; cases hu)⟩
  · have hjk : j < k := by have := (List.getElem?_eq_some_iff.1 hj).1; rw [List.length_take] at this; omega
    rw [List.getElem?_take_of_lt hjk] at hj
    obtain ⟨Ab, cb, c0, c1, c2, c3, h4⟩ := h3 j r hj
    exact ⟨Ab, cb, by rw [List.getElem?_take_of_lt (by omega)]; exact c0, by rw [List.getElem?_take_of_lt (by omega)]; exact c1, by rw [List.getElem?_take_of_lt (by omega)]; exact c2, by rw [List.getElem?_take_of_lt (by omega)]; exact c3, h4⟩
/-- The record with a number, read. -/
theorem rec_at {W : World} {F : Nat → Prop} {A : Option Addr} {n : Nat} {L : List S.R} (h : RefAt W F A n L) {k : Nat} (hk : k < n) :
    ∃ ga r Ab cb, A = some ⟨ga, 0, none⟩ ∧ ¬ F ga ∧ ga < W.heap.size ∧ L[k]? = some r ∧ W.cell? ⟨ga, k * 4, none⟩ = some (.bool r.ob) ∧ W.cell? ⟨ga, k * 4 + 1, none⟩ = some (.slice Ab r.bs.length cb) ∧ W.cell? ⟨ga, k * 4 + 2, none⟩ = some (.int .u64 (r.nm.toNat : Int)) ∧ W.cell? ⟨ga, k * 4 + 3, none⟩ = some (.int .u64 (r.ky.toNat : Int)) ∧
      Reads W W.heap.size 1 Ab r.bs.length (bv r.bs) ∧ r.bs.length ≤ 65536 ∧ ∀ ad, Ab = some ad → ad.block < W.heap.size ∧ ¬ F ad.block := by
  obtain ⟨h0, cells, h1, h2, h3⟩ := h
  obtain ⟨ad, e, hb, hc⟩ := h1.2 (by omega)
  obtain ⟨⟨ga, rfl⟩, hf⟩ := h2 ad e (by omega)
  obtain ⟨o, ho⟩ : ∃ o, L[k]? = some o := ⟨_, List.getElem?_eq_getElem (by rw [h0]; exact hk)⟩
  obtain ⟨Ab, cb, c0, c1, c2, c3, h4, h5, h6⟩ := h3 k o ho
  have ha : ∀ j, (⟨ga, 0, none⟩ : Addr).add j = ⟨ga, j, none⟩ := fun j => by unfold Addr.add; split <;> simp_all
  have d0 := hc _ _ c0
  have d1 := hc _ _ c1
  have d2 := hc _ _ c2
  have d3 := hc _ _ c3
  rw [ha] at d0 d1 d2 d3
  exact ⟨ga, o, Ab, cb, e, hf, hb, ho, d0, d1, d2, d3, h4, h5, h6⟩
theorem S.payload_len2 (r : S.R) (h : r.bs.length ≤ 65536) : (S.payload r).length ≤ 65560 := by
  have := S.payload_len r
  cases r with
  | obj b => have h : b.length ≤ 65536 := h; simp only at this; omega
  | bind n k => simp only at this; omega

set_option maxRecDepth 10000 in
set_option maxHeartbeats 2000000 in
theorem log_any (F : Nat → Prop) (A : Option Addr) (n cap m : Nat) (L : List S.R) (hn2 : n ≤ 200) (hcap : n ≤ cap) (hm : (S.log L).length = m) (w : World) (h : RefAt w F A n L) :
    Calls Try.prog 44 #[.slice A n cap] w fun e w' => ∃ A' c', e = .returned (.slice A' m c') ∧ m ≤ c' ∧ w'.ownsRow w.heap.size 5 1 (.slice A' m c') m (bv (S.log L)) ∧ Below w.heap.size w w' := by
  obtain ⟨i0, hi, hz0, hz1, hz2⟩ := info_parts infoByte
  have HM := Lib.hid hm
  have HLN := Lib.hid h.1
  clear hm
  go_enter Try.func44, Try.ntmps44
  go_wp2_with fail
  go_loopw [3, 4] (fun v ix wr => ∃ i k : Nat, i ≤ n ∧ ix = .int .i64 (i : Int) ∧ k ≤ 65600 * i ∧ wr.ownsRow w.heap.size 5 1 v k (bv (S.log (L.take i))) ∧ Below w.heap.size w wr) (fun _ ix _ => n - (intOf ix).toNat)
  case atStart => exact ⟨0, 0, Nat.zero_le _, rfl, Nat.zero_le _, by simpa [bv, S.log] using World.ownsRow_nil _ _ _ _, Below.refl _ _⟩
  case round =>
    obtain ⟨i, k, hi1, rfl, hk, hown, hB⟩ := hrel
    by_cases hlt : i < n
    · obtain ⟨ga, r, Ab, cb, rfl, _, hgl, ho, c0, c1, c2, c3, hrb, hrl, _⟩ := rec_at (h.later hB) hlt
      have hlog : S.log (L.take (i + 1)) = S.log (L.take i) ++ S.frame (S.payload r) := by rw [List.take_add_one, ho]; exact S.log_snoc _ _
      have hpl := S.payload_len2 r hrl
      have hfl := S.frame_len (S.payload r)
      obtain ⟨kl, hkl⟩ : ∃ k, r.bs.length = k := ⟨_, rfl⟩
      obtain ⟨ob, hob⟩ : ∃ k, r.ob = k := ⟨_, rfl⟩
      obtain ⟨nm, hnm⟩ : ∃ k, r.nm = k := ⟨_, rfl⟩
      obtain ⟨ky, hky⟩ : ∃ k, r.ky = k := ⟨_, rfl⟩
      obtain ⟨np, hnp⟩ : ∃ k, (S.payload r).length = k := ⟨_, rfl⟩
      obtain ⟨nf, hnf⟩ : ∃ k, (S.frame (S.payload r)).length = k := ⟨_, rfl⟩
      rw [hkl] at c1 hrb hrl
      rw [hob] at c0
      rw [hnm] at c2
      rw [hky] at c3
      rw [hnp] at hpl hfl
      rw [hnf] at hfl
      have hcp := fun W h => payload_any r ob kl np nm ky hob hkl hnm hky hnp Ab cb (by omega) W h
      have HP := Lib.hid hcp
      have HLG := Lib.hid hlog
      have HNP := Lib.hid hnp
      have HNF := Lib.hid hnf
      have hi1' : (0 : Int) ≤ (i : Int) := by omega
      have hi2' : (i : Int) < (n : Int) := by omega
      have hnn : ((n : Int)) ≤ (cap : Int) := by omega
      clear hcp hlog hnp hnf hky hnm hob hkl ho
      go_wp2_with fail
      refine (HP.out _ hrb).mono ?_
      rintro e w2 ⟨A2, c2', rfl, hc2, hown2, hd2⟩
      have hb2 := blater hB (Nat.le_refl _) hd2
      have hr2 := Reads.of_own hown2
      have hownv := own_below hown hd2
      clear HP c0 c1 c2 c3 hrb hown2
      go_wp2_with fail
      refine (refFrame_any A2 np c2' nf _ HNP.out (by omega) HNF.out _ hr2).mono ?_
      rintro e w3 ⟨A3, c3', rfl, hc3, hown3, hd3⟩
      have hb3 := blater hb2 (Nat.le_refl _) hd3
      have hownv := own_below hownv hd3
      have hr3 := Reads.of_own hown3
      have hs3 := hb3.size
      clear hr2 hown3
      go_wp2_with (at_builtin; refine wpList_append_any _ rfl _ _ 22 rfl w.heap.size 5 i0 (.int .u8 0) 1 1 Try.underlying22 hi hz0 hz1 hz2 rfl (by decide) _ _ _ rfl hownv _ A3 nf c3' _ rfl hr3 (bv_one _) (by unfold maxLen; omega) (by omega) hs3 ?_; intro v' w7 hown' hgrow hat)
      have hb9 := hb3.grown hgrow hs3 (fun k e => (own_from hownv k e).1)
      go_roundw
      case rel => exact ⟨i + 1, k + nf, by omega, by go_num, by omega, by rw [HLG.out, show bv (S.log (L.take i) ++ S.frame (S.payload r)) = bv (S.log (L.take i)) ++ bv (S.frame (S.payload r)) by simp [bv]]; exact hown', hb9⟩
      case measure => simp [intOf]; omega
    · have hge : (n : Int) ≤ (i : Int) := by omega
      rw [List.take_of_length_le (by rw [HLN.out]; omega)] at hown
      obtain ⟨A', c', e, hc', hlk, h', _⟩ := own_k hown
      subst e
      obtain rfl : k = m := by rw [← hlk]; exact HM.out
      go_wp2_with fail
      go_ret
      exact ⟨_, _, rfl, hc', h', hB⟩
end Go.Proofs.Ytfanhbemmjcomaa
namespace Go.Proofs.Ytfanhbemmjcomaa
open Go.RowKit
set_option linter.unusedVariables false
namespace S
theorem look_cons_some {n j : UInt64} (r : R) {L : List R} (h : look L n = some j) : look (r :: L) n = some j := by
  cases r with
  | obj b => exact h
  | bind m k => simp only [look]; rw [h]
theorem look_drop_some {n j : UInt64} : ∀ (L : List R) (i : Nat), look (L.drop i) n = some j → look L n = some j
  | L, 0, h => h
  | [], i + 1, h => h
  | r :: L, i + 1, h => look_cons_some r (look_drop_some L i h)
theorem drop_at {L : List R} {i : Nat} {r : R} (h : L[i]? = some r) : L.drop i = r :: L.drop (i + 1) := by
  obtain ⟨h1, h2⟩ := List.getElem?_eq_some_iff.1 h
  rw [List.drop_eq_getElem_cons h1, h2]
theorem get_hit {r : R} {x : UInt64} (D : List R) (h1 : r.ob = true) (h2 : key r.bs = x) : get (r :: D) x = some r.bs := by
  cases r with
  | obj b => exact get_obj_pos D h2
  | bind m k => cases h1
theorem get_miss {r : R} {x : UInt64} (D : List R) (h1 : r.ob = true → key r.bs ≠ x) : get (r :: D) x = get D x := by
  cases r with
  | obj b => exact get_obj_neg D (h1 rfl)
  | bind m k => rfl
theorem look_hit {r : R} {x : UInt64} {D : List R} (h0 : look D x = none) (h1 : r.ob = false) (h2 : r.nm = x) : look (r :: D) x = some r.ky := by
  cases r with
  | obj b => cases h1
  | bind m k => simp only [look]; rw [h0]; exact if_pos h2
theorem look_miss {r : R} {x : UInt64} {D : List R} (h0 : look D x = none) (h1 : r.ob = false → r.nm ≠ x) : look (r :: D) x = none := by
  cases r with
  | obj b => exact h0
  | bind m k => simp only [look]; rw [h0]; exact if_neg (h1 rfl)
end S

set_option maxRecDepth 10000 in
set_option maxHeartbeats 2000000 in
theorem refGet_any (F : Nat → Prop) (A : Option Addr) (n cap : Nat) (L : List S.R) (sc : Int) (x : UInt64) (b : List UInt8) (k : Nat) (has : Bool) (hh : (S.get L x).isSome = has) (hb : (S.get L x).getD [] = b) (hk : b.length = k) (hn2 : n ≤ 200) (hcap : n ≤ cap) (w : World) (h : RefAt w F A n L) :
    Calls Try.prog 26 #[.agg #[.slice A n cap, .int .i64 sc], .int .u64 (x.toNat : Int)] w fun e w' => ∃ A' c', e = .returned (.tuple #[.slice A' k c', .bool has]) ∧ Reads w' w'.heap.size 1 A' k (bv b) ∧ Below w.heap.size w w' := by
  have HHH := Lib.hid hh
  have HHB := Lib.hid hb
  have HK := Lib.hid hk
  have HLN := Lib.hid h.1
  clear hh hb hk
  obtain ⟨w1, hw1⟩ : ∃ y, w.alloc (.cells #[.slice A n cap, .int .i64 sc] 43) = y := ⟨_, rfl⟩
  have hd1 : Below w.heap.size w w1 := by rw [← hw1]; exact (Below.refl _ _).alloc (Nat.le_refl _) _
  have htw := Two.new w 43 (.slice A n cap) (.int .i64 sc)
  rw [hw1] at htw
  have h1 := h.later hd1
  go_enter Try.func26, Try.ntmps26
  go_wp2_with fail
  try rw [hw1]
  clear hw1
  try go_wp2_with fail
  go_loopw [6] (fun ix wr => ∃ i : Nat, i ≤ n ∧ ix = .int .i64 (i : Int) ∧ Hid (S.get L x = S.get (L.drop i) x) ∧ Below w1.heap.size w1 wr) (fun ix _ => n - (intOf ix).toNat)
  case atStart => exact ⟨0, Nat.zero_le _, rfl, Lib.hid rfl, Below.refl _ _⟩
  case round =>
    obtain ⟨i, hi1, rfl, hg, hB⟩ := hrel
    have ht := htw.below hB
    have t0 := ht.cell0
    by_cases hlt : i < n
    · obtain ⟨ga, r, Ab, cb, rfl, _, hgl, ho, c0, c1, c2, c3, hrb, hrl, _⟩ := rec_at (h1.later hB) hlt
      have hdr := S.drop_at ho
      obtain ⟨kl, hkl⟩ : ∃ k, r.bs.length = k := ⟨_, rfl⟩
      obtain ⟨ob, hob⟩ : ∃ k, r.ob = k := ⟨_, rfl⟩
      obtain ⟨y, hy⟩ : ∃ y, S.key r.bs = y := ⟨_, rfl⟩
      have hcp := fun W h => key_any Ab kl cb r.bs y hy hkl (by omega) W h
      rw [hkl] at c1 hrb hrl
      rw [hob] at c0
      have HC := Lib.hid hcp
      have HKL := Lib.hid hkl
      have HOB := Lib.hid hob
      have HY := Lib.hid hy
      have hi1' : (0 : Int) ≤ (i : Int) := by omega
      have hi2' : (i : Int) < (n : Int) := by omega
      have HDR := Lib.hid hdr
      have hcl := cell_lt c1
      have htl := ht.lt
      clear hcp hkl hob hy ho hdr
      cases ob with
      | true =>
        by_cases hyx : y = x
        · subst hyx
          have hget : S.get L y = some r.bs := by rw [hg.out, HDR.out]; exact S.get_hit _ HOB.out HY.out
          have e1 : has = true := by rw [← HHH.out, hget]; rfl
          have e2 : r.bs = b := by rw [← HHB.out, hget]; rfl
          have e3 : kl = k := by rw [← HKL.out, e2]; exact HK.out
          have HE2 := Lib.hid e2
          subst e1
          subst e3
          clear hget e2
          go_wp2_with fail
          refine (HC.out _ hrb).mono ?_
          rintro e w2 ⟨rfl, hd2⟩
          have t02 := (ht.below hd2).cell0
          have c12 := (hd2.cell hcl).trans c1
          have hrb2 := hrb.later hd2
          have hb2 := blater (blater hd1 (Nat.le_refl _) hB) (Nat.le_refl _) hd2
          rw [HE2.out] at hrb2
          clear t0 c0 c1 c2 c3 hrb HC
          go_wp2_with fail
          go_ret2
          exact ⟨_, _, rfl, hrb2, hb2⟩
        · have hne : ((y.toNat : Int) == (x.toNat : Int)) = false := by rw [beq_eq_false_iff_ne]; intro e; exact hyx (UInt64.toNat_inj.1 (by omega))
          have hg' := Lib.hid (show S.get L x = S.get (L.drop (i + 1)) x by rw [hg.out, HDR.out]; exact S.get_miss _ (fun _ => by rw [HY.out]; exact hyx))
          go_wp2_with fail
          refine (HC.out _ hrb).mono ?_
          rintro e w2 ⟨rfl, hd2⟩
          have hb2 := blater hB (Nat.le_refl _) hd2
          clear t0 c0 c1 c2 c3 hrb HC
          go_wp2_with fail
          go_roundw
          case rel => exact ⟨i + 1, by omega, by go_num, hg', hb2⟩
          case measure => simp [intOf]; omega
      | false =>
        have hg' := Lib.hid (show S.get L x = S.get (L.drop (i + 1)) x by rw [hg.out, HDR.out]; exact S.get_miss _ (fun e => by rw [HOB.out] at e; cases e))
        go_wp2_with fail
        go_roundw
        case rel => exact ⟨i + 1, by omega, by go_num, hg', hB⟩
        case measure => simp [intOf]; omega
    · have hge : (n : Int) ≤ (i : Int) := by omega
      have hget : S.get L x = none := by rw [hg.out, List.drop_eq_nil_of_le (by rw [HLN.out]; omega)]; rfl
      have e1 : has = false := by rw [← HHH.out, hget]; rfl
      have e2 : b = [] := by rw [← HHB.out, hget]; rfl
      have e3 : k = 0 := by rw [← HK.out, e2]; rfl
      subst e1 e2 e3
      go_wp2_with fail
      go_ret2
      exact ⟨_, _, rfl, ⟨rfl, fun h => absurd h (by omega)⟩, blater hd1 (Nat.le_refl _) hB⟩
end Go.Proofs.Ytfanhbemmjcomaa
namespace Go.Proofs.Ytfanhbemmjcomaa
open Go.RowKit
set_option linter.unusedVariables false

set_option maxRecDepth 10000 in
set_option maxHeartbeats 2000000 in
theorem refLook_any (F : Nat → Prop) (A : Option Addr) (n cap : Nat) (L : List S.R) (sc : Int) (x k : UInt64) (has : Bool) (hh : (S.look L x).isSome = has) (hb : (S.look L x).getD 0 = k) (hn2 : n ≤ 200) (hcap : n ≤ cap) (w : World) (h : RefAt w F A n L) :
    Calls Try.prog 28 #[.agg #[.slice A n cap, .int .i64 sc], .int .u64 (x.toNat : Int)] w fun e w' => e = .returned (.tuple #[.int .u64 (k.toNat : Int), .bool has]) ∧ Below w.heap.size w w' := by
  have HHH := Lib.hid hh
  have HHB := Lib.hid hb
  have HLN := Lib.hid h.1
  clear hh hb
  obtain ⟨w1, hw1⟩ : ∃ y, w.alloc (.cells #[.slice A n cap, .int .i64 sc] 43) = y := ⟨_, rfl⟩
  have hd1 : Below w.heap.size w w1 := by rw [← hw1]; exact (Below.refl _ _).alloc (Nat.le_refl _) _
  have htw := Two.new w 43 (.slice A n cap) (.int .i64 sc)
  rw [hw1] at htw
  have h1 := h.later hd1
  have t00 := htw.cell0
  go_enter Try.func28, Try.ntmps28
  go_wp2_with fail
  try rw [hw1]
  clear hw1
  try go_wp2_with fail
  clear t00
  go_loopw [6] (fun ix wr => ∃ j : Nat, j ≤ n ∧ ix = .int .i64 ((j : Int) - 1) ∧ Hid (S.look (L.drop j) x = none) ∧ wr = w1) (fun ix _ => (intOf ix + 1).toNat)
  case atStart => exact ⟨n, Nat.le_refl _, rfl, Lib.hid (by rw [List.drop_eq_nil_of_le (by rw [HLN.out]; omega)]; rfl), rfl⟩
  case round =>
    obtain ⟨j, hj1, rfl, hg, rfl⟩ := hrel
    have t0 := htw.cell0
    by_cases hj : 0 < j
    · obtain ⟨i, rfl⟩ : ∃ i, j = i + 1 := ⟨j - 1, by omega⟩
      have hix : (((i + 1 : Nat) : Int) - 1) = (i : Int) := by omega
      rw [hix]
      obtain ⟨ga, r, Ab, cb, rfl, _, hgl, ho, c0, c1, c2, c3, hrb, hrl, _⟩ := rec_at h1 (k := i) (by omega)
      have hdr := S.drop_at ho
      obtain ⟨ob, hob⟩ : ∃ k, r.ob = k := ⟨_, rfl⟩
      obtain ⟨nm, hnm⟩ : ∃ y, r.nm = y := ⟨_, rfl⟩
      obtain ⟨ky, hky⟩ : ∃ y, r.ky = y := ⟨_, rfl⟩
      rw [hob] at c0
      rw [hnm] at c2
      rw [hky] at c3
      have HOB := Lib.hid hob
      have HNM := Lib.hid hnm
      have HKY := Lib.hid hky
      have hi1' : (0 : Int) ≤ (i : Int) := by omega
      have hi2' : (i : Int) < (n : Int) := by omega
      have HDR := Lib.hid hdr
      clear hob hnm hky ho hdr hrb hrl c1 hix
      cases ob with
      | false =>
        by_cases hyx : nm = x
        · subst hyx
          have hl : S.look L nm = some ky := by
            refine S.look_drop_some L i ?_
            rw [HDR.out, ← HKY.out]
            exact S.look_hit hg.out HOB.out HNM.out
          have e1 : has = true := by rw [← HHH.out, hl]; rfl
          have e2 : ky = k := by rw [← HHB.out, hl]; rfl
          subst e1 e2
          clear hl
          go_wp2_with fail
          go_ret2
          exact ⟨rfl, hd1⟩
        · have hne : ((nm.toNat : Int) == (x.toNat : Int)) = false := by rw [beq_eq_false_iff_ne]; intro e; exact hyx (UInt64.toNat_inj.1 (by omega))
          have hg' := Lib.hid (show S.look (L.drop i) x = none by rw [HDR.out]; exact S.look_miss hg.out (fun _ => by rw [HNM.out]; exact hyx))
          go_wp2_with fail
          go_roundw
          case rel => exact ⟨i, by omega, by first | rfl | go_num, hg', by trivial⟩
          case measure => simp [intOf] <;> omega
      | true =>
        have hg' := Lib.hid (show S.look (L.drop i) x = none by rw [HDR.out]; exact S.look_miss hg.out (fun e => by rw [HOB.out] at e; cases e))
        go_wp2_with fail
        go_roundw
        case rel => exact ⟨i, by omega, by first | rfl | go_num, hg', by trivial⟩
        case measure => simp [intOf] <;> omega
    · obtain rfl : j = 0 := by omega
      have hl : S.look L x = none := hg.out
      have e1 : has = false := by rw [← HHH.out, hl]; rfl
      have e2 : k = 0 := by rw [← HHB.out, hl]; rfl
      subst e1 e2
      go_wp2_with fail
      go_ret2
      exact ⟨rfl, hd1⟩
end Go.Proofs.Ytfanhbemmjcomaa
