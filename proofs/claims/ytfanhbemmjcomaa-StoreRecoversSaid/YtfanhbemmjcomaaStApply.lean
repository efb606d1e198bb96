/- Store.apply of a record that is valid. -/
import Derived.Test.YtfanhbemmjcomaaStLen
namespace Go.Proofs.Ytfanhbemmjcomaa
open Go.RowKit
set_option linter.unusedVariables false

theorem S.frame_pos (p : List UInt8) : 9 ≤ (S.frame p).length := by
  have := (V.enc_len (UInt64.ofNat p.length)).1
  unfold S.frame
  simp only [List.length_append, S.le8_len]; omega
set_option maxRecDepth 10000 in
set_option maxHeartbeats 4000000 in
theorem apply_obj (base g bo bn sy : Nat) (v : Value) (L : List S.R) (b pl : List UInt8) (A : Option Addr) (kp cap : Nat) (hfit : S.fits L (.obj b)) (hpl : S.payload (.obj b) = pl) (hkp : pl.length = kp) (hfew : L.length < 200) (w : World) (h : StAt w base g bo bn v L sy) (hr : Reads w w.heap.size 1 A kp (bv pl)) :
    Calls Try.prog 49 #[.pointer (some ⟨g, 0, none⟩), .slice A kp cap] w fun e w' => ∃ v', e = .returned .nilIface ∧ StAt w' base g bo bn v' (L ++ [.obj b]) sy ∧ Turn (far g bo bn v) w w' ∧ Newer w v v' := by
  have hbl := hfit.2
  have hkp2 : kp ≤ 65600 := by have := S.payload_len (.obj b); rw [hpl, hkp] at this; simp only at this; omega
  have HU := Lib.hid (show V.rdUint (pl, 0) = (1, (V.enc (UInt64.ofNat b.length) ++ b, 0)) by rw [← hpl]; exact V.rd_enc 1 _)
  have HB := Lib.hid (show V.rdList V.next 65536 (V.enc (UInt64.ofNat b.length) ++ b, 0) = (b, ([], 0)) by have := V.rdBytes_enc 65536 b [] (by omega) (by omega); simpa using this)
  have hel : (V.enc (UInt64.ofNat b.length) ++ b).length ≤ 1000000 := by rw [List.length_append]; have := (V.enc_len (UInt64.ofNat b.length)).2; omega
  have HP := Lib.hid (S.fits_put hfit)
  obtain ⟨n, hn⟩ : ∃ n, (S.log L).length = n := ⟨_, rfl⟩
  obtain ⟨n', hn'⟩ : ∃ n, (S.log (L ++ [.obj b])).length = n := ⟨_, rfl⟩
  have hnn : n < n' := by rw [← hn, ← hn', S.log_snoc, List.length_append]; have := S.frame_pos (S.payload (.obj b)); omega
  obtain ⟨kb, hkb⟩ : ∃ k, b.length = k := ⟨_, rfl⟩
  have HKB := Lib.hid hkb
  have HKP := Lib.hid hkp
  have hrow := h.row
  rw [hn] at hrow
  obtain ⟨A0, c0, rfl, _, _, _⟩ := own_reads hrow
  have HN' := Lib.hid hn'
  clear hfit hpl hkp hn hn' hrow hkb
  go_enter Try.func49, Try.ntmps49
  go_wp2_with fail
  refine (newIn_any A kp cap pl HKP.out (by omega) w hr).mono ?_
  rintro e w1 ⟨gi, rfl, hgi, hin1, hb1⟩
  have hs1 := h.later hb1
  have hc1 := hs1.four.cell0
  go_wp2_with fail
  refine (inUint_any gi _ w1 hin1).mono ?_
  rintro e w2 ⟨rfl, hin2, hg2⟩
  have hb2 := in_turn hb1 hgi hin1 hg2
  simp only [HU.out] at hin2 ⊢
  rw [show (((1 : UInt64).toNat : Nat) : Int) = 1 from rfl]
  clear hin1 hg2 hb1 hc1 hs1
  go_wp2_with fail
  refine (inBytes_any gi 65536 (by omega) (by omega) _ hel w2 hin2).mono ?_
  rintro e w3 ⟨u, rfl, hown3, hin3, hg3⟩
  have hb3 := in_turn hb2 hgi hin2 hg3
  simp only [HB.out] at hown3 hin3
  rw [HKB.out] at hown3
  obtain ⟨A3, c3, rfl, hc3, hrd3, hown3⟩ := own_reads hown3
  have hA3 := own_from hown3
  clear hin2 hg3 hown3
  go_wp2_with fail
  refine (inEnd_any gi _ w3 hin3).mono ?_
  rintro e w4 ⟨rfl, rfl⟩
  rw [show V.fin (([], 0) : V.St) = 0 from rfl]
  have hs3 := h.later hb3
  have hsz2 := hb2.size
  clear hin3
  go_wp2_with fail
  refine (put_any base g bo bn sy _ L A3 kb c3 b HKB.out hfew _ _ _ HP.out _ hs3 hrd3 (fun ad e => (hA3 ad.block (by rw [e]; rfl)).2) (fun ad e hf => by have := (hA3 ad.block (by rw [e]; rfl)).1; have := h.far_lt _ hf; omega)).mono ?_
  rintro e w5 ⟨v5, rfl, hs5, ht5, hn5⟩
  have hrow := hs5.row
  rw [HN'.out] at hrow
  obtain ⟨A5, c5, rfl, _, _, _⟩ := own_reads hrow
  have hc5 := hs5.four.cell0
  have hne : ((n' : Int) == (n : Int)) = false := by rw [beq_eq_false_iff_ne]; omega
  have ht : Turn (far g bo bn (.slice A0 n c0)) w w5 := (Turn.of_below (far g bo bn (.slice A0 n c0)) hb3).trans ht5 (fun i hi => .inl hi)
  have hnw : Newer w (.slice A0 n c0) (.slice A5 n' c5) := by
    rcases hn5 with h1 | ⟨x, h1, h2⟩
    · exact .inl h1
    · exact .inr ⟨x, h1, Nat.le_trans hb3.size h2⟩
  clear hrow hrd3 hs3
  go_wp2_with fail
  go_ret
  exact ⟨_, rfl, hs5, ht, hnw⟩
set_option maxRecDepth 10000 in
set_option maxHeartbeats 4000000 in
theorem apply_bind (base g bo bn sy : Nat) (v : Value) (L : List S.R) (nm ky : UInt64) (pl : List UInt8) (A : Option Addr) (kp cap : Nat) (hfit : S.fits L (.bind nm ky)) (hpl : S.payload (.bind nm ky) = pl) (hkp : pl.length = kp) (hfew : L.length < 200) (w : World) (h : StAt w base g bo bn v L sy) (hr : Reads w w.heap.size 1 A kp (bv pl)) :
    Calls Try.prog 49 #[.pointer (some ⟨g, 0, none⟩), .slice A kp cap] w fun e w' => ∃ v', e = .returned .nilIface ∧ StAt w' base g bo bn v' (L ++ [.bind nm ky]) sy ∧ Turn (far g bo bn v) w w' ∧ Newer w v v' := by
  have hkp2 : kp ≤ 65600 := by have := S.payload_len (.bind nm ky); rw [hpl, hkp] at this; simp only at this; omega
  have HU := Lib.hid (show V.rdUint (pl, 0) = (2, (V.enc nm ++ V.enc ky, 0)) by rw [← hpl]; have := V.rd_enc 2 (V.enc nm ++ V.enc ky); rw [← List.append_assoc] at this; exact this)
  have HU1 := Lib.hid (V.rd_enc nm (V.enc ky))
  have HU2 := Lib.hid (show V.rdUint (V.enc ky, 0) = (ky, ([], 0)) by have := V.rd_enc ky []; rwa [List.append_nil] at this)
  have HP := Lib.hid (S.fits_bind hfit)
  obtain ⟨n, hn⟩ : ∃ n, (S.log L).length = n := ⟨_, rfl⟩
  obtain ⟨n', hn'⟩ : ∃ n, (S.log (L ++ [.bind nm ky])).length = n := ⟨_, rfl⟩
  have hnn : n < n' := by rw [← hn, ← hn', S.log_snoc, List.length_append]; have := S.frame_pos (S.payload (.bind nm ky)); omega
  have HKP := Lib.hid hkp
  have hrow := h.row
  rw [hn] at hrow
  obtain ⟨A0, c0, rfl, _, _, _⟩ := own_reads hrow
  have HN' := Lib.hid hn'
  clear hfit hpl hkp hn hn' hrow
  go_enter Try.func49, Try.ntmps49
  go_wp2_with fail
  refine (newIn_any A kp cap pl HKP.out (by omega) w hr).mono ?_
  rintro e w1 ⟨gi, rfl, hgi, hin1, hb1⟩
  have hs1 := h.later hb1
  have hc1 := hs1.four.cell0
  go_wp2_with fail
  refine (inUint_any gi _ w1 hin1).mono ?_
  rintro e w2 ⟨rfl, hin2, hg2⟩
  have hb2 := in_turn hb1 hgi hin1 hg2
  simp only [HU.out] at hin2 ⊢
  rw [show (((2 : UInt64).toNat : Nat) : Int) = 2 from rfl]
  clear hin1 hg2 hb1 hc1 hs1
  go_wp2_with fail
  refine (inUint_any gi _ w2 hin2).mono ?_
  rintro e w3 ⟨rfl, hin3, hg3⟩
  have hb3 := in_turn hb2 hgi hin2 hg3
  simp only [HU1.out] at hin3 ⊢
  clear hin2 hg3
  go_wp2_with fail
  refine (inUint_any gi _ w3 hin3).mono ?_
  rintro e w4 ⟨rfl, hin4, hg4⟩
  have hb4 := in_turn hb3 hgi hin3 hg4
  simp only [HU2.out] at hin4 ⊢
  clear hin3 hg4
  go_wp2_with fail
  refine (inEnd_any gi _ w4 hin4).mono ?_
  rintro e w5 ⟨rfl, rfl⟩
  rw [show V.fin (([], 0) : V.St) = 0 from rfl]
  have hs4 := h.later hb4
  clear hin4
  go_wp2_with fail
  refine (bind_any base g bo bn sy _ L nm ky hfew _ _ HP.out _ hs4).mono ?_
  rintro e w5 ⟨v5, rfl, hs5, ht5, hn5⟩
  have hrow := hs5.row
  rw [HN'.out] at hrow
  obtain ⟨A5, c5, rfl, _, _, _⟩ := own_reads hrow
  have hc5 := hs5.four.cell0
  have hne : ((n' : Int) == (n : Int)) = false := by rw [beq_eq_false_iff_ne]; omega
  have ht : Turn (far g bo bn (.slice A0 n c0)) w w5 := (Turn.of_below (far g bo bn (.slice A0 n c0)) hb4).trans ht5 (fun i hi => .inl hi)
  have hnw : Newer w (.slice A0 n c0) (.slice A5 n' c5) := by
    rcases hn5 with h1 | ⟨x, h1, h2⟩
    · exact .inl h1
    · exact .inr ⟨x, h1, Nat.le_trans hb4.size h2⟩
  clear hrow hs4
  go_wp2_with fail
  go_ret
  exact ⟨_, rfl, hs5, ht, hnw⟩
theorem apply_any (base g bo bn sy : Nat) (v : Value) (L : List S.R) (r : S.R) (pl : List UInt8) (A : Option Addr) (kp cap : Nat) (hfit : S.fits L r) (hpl : S.payload r = pl) (hkp : pl.length = kp) (hfew : L.length < 200) (w : World) (h : StAt w base g bo bn v L sy) (hr : Reads w w.heap.size 1 A kp (bv pl)) :
    Calls Try.prog 49 #[.pointer (some ⟨g, 0, none⟩), .slice A kp cap] w fun e w' => ∃ v', e = .returned .nilIface ∧ StAt w' base g bo bn v' (L ++ [r]) sy ∧ Turn (far g bo bn v) w w' ∧ Newer w v v' := by
  cases r with
  | obj b => exact apply_obj base g bo bn sy v L b pl A kp cap hfit hpl hkp hfew w h hr
  | bind n k => exact apply_bind base g bo bn sy v L n k pl A kp cap hfit hpl hkp hfew w h hr
end Go.Proofs.Ytfanhbemmjcomaa
