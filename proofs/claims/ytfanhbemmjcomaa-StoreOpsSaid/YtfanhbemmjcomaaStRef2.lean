/- The reference's Frame and Payload. The reference's Payload. -/
import Derived.Test.YtfanhbemmjcomaaStDo
namespace Go.Proofs.Ytfanhbemmjcomaa
open Go.RowKit
set_option linter.unusedVariables false

theorem S.le8_next (x : UInt64) (k m : Nat) (hm : m = x.toNat / 256 ^ k) : m / 256 = x.toNat / 256 ^ (k + 1) := by
  rw [hm, Nat.div_div_eq_div_mul, Nat.pow_succ]
set_option maxRecDepth 10000 in
set_option maxHeartbeats 1000000 in
theorem refFrame_any (A : Option Addr) (len cap n : Nat) (bs : List UInt8) (hl : bs.length = len) (hlen : len ≤ 500000) (hn : (S.frame bs).length = n) (w : World) (hr : Reads w w.heap.size 1 A len (bv bs)) :
    Calls Try.prog 55 #[.slice A len cap] w fun e w' => ∃ A' c', e = .returned (.slice A' n c') ∧ n ≤ c' ∧ w'.ownsRow w.heap.size 5 1 (.slice A' n c') n (bv (S.frame bs)) ∧ Below w.heap.size w w' := by
  obtain ⟨i0, hi, hz0, hz1, hz2⟩ := info_parts infoByte
  have HL := Lib.hid hl
  have hu := fun W => refUint_any (UInt64.ofNat len) W
  have e64 : (UInt64.ofNat len).toNat = len := UInt64.toNat_ofNat_of_lt' (by show _ < 18446744073709551616; omega)
  rw [e64] at hu
  obtain ⟨E, hE⟩ : ∃ E, V.enc (UInt64.ofNat len) = E := ⟨_, rfl⟩
  have hEl : E.length ≤ 10 := by rw [← hE]; exact (V.enc_len _).2
  obtain ⟨ke, hke⟩ : ∃ k, E.length = k := ⟨_, rfl⟩
  simp only [hE, hke] at hu
  rw [hke] at hEl
  have hh := fun W h => rbytes_any ⟨#[102, 114, 97, 109, 101]⟩ (by decide) A len cap bs hl (by omega) W h
  have hh : ∀ W, Reads W W.heap.size 1 A len (bv bs) → Calls Try.prog 50 #[.string ⟨#[102, 114, 97, 109, 101]⟩, .slice A len cap] W fun e W' => e = .returned (.int .u64 ((S.crc bs).toNat : Int)) ∧ Below W.heap.size W W' := hh
  obtain ⟨x, hx⟩ : ∃ x, S.crc bs = x := ⟨_, rfl⟩
  rw [hx] at hh
  have hfr : S.frame bs = E ++ S.le8 x ++ bs := by unfold S.frame; rw [hl, hE, hx]
  have hnl : n = ke + 8 + len := by rw [← hn, hfr]; simp [S.le8_len, hl, hke]; omega
  have HFR := Lib.hid hfr
  have HH := Lib.hid hh
  have HU := Lib.hid hu
  have hlw : IntKind.u64.wrap (len : Int) = (len : Int) := by rw [IntKind.wrap_u64]; omega
  clear hn hfr hx hke hE hl hh hu e64
  subst hnl
  go_enter Try.func55, Try.ntmps55
  go_wp2_with fail
  refine (HU.out _).mono ?_
  rintro e w1 ⟨v1, rfl, hown1, hd1⟩
  have hr1 := hr.later hd1
  clear HU
  go_wp2_with fail
  refine (HH.out _ hr1).mono ?_
  rintro e w2 ⟨rfl, hd2⟩
  have hown2 := own_below hown1 hd2
  have hb2 := blater hd1 (Nat.le_refl _) hd2
  have hsz := hb2.size
  have hx64 := x.toNat_lt
  clear HH hown1 hd1 hd2
  go_wp2_with fail
  go_loopw [3, 4, 5] (fun v s i wr => ∃ k m : Nat, k ≤ 8 ∧ i = .int .i64 (k : Int) ∧ s = .int .u64 (m : Int) ∧ m < 18446744073709551616 ∧ Hid (m = x.toNat / 256 ^ k) ∧ wr.ownsRow w.heap.size 5 1 v (ke + k) (bv (E ++ (S.le8 x).take k)) ∧ Below w.heap.size w wr) (fun _ _ i _ => 8 - (intOf i).toNat)
  case atStart => exact ⟨0, x.toNat, Nat.zero_le _, rfl, rfl, hx64, Lib.hid (by simp), by simpa using hown2, hb2⟩
  case round =>
    obtain ⟨k, m, hk, rfl, rfl, hm, HM, hown, hb⟩ := hrel
    by_cases hlt : k < 8
    · have hi2 : (k : Int) < 8 := by omega
      have hi1 : (0 : Int) ≤ (k : Int) := by omega
      have hcm : UInt8.ofNat m = UInt8.ofNat (x.toNat / 256 ^ k) := by rw [← HM.out]
      have hsh : (m : Int) % 256 = ((UInt8.ofNat m).toNat : Int) := by simp
      have htk := S.le8_take x k hlt
      rw [← hcm] at htk
      obtain ⟨c, hc⟩ : ∃ c, UInt8.ofNat m = c := ⟨_, rfl⟩
      rw [hc] at hsh htk
      have hsh2 : (m : Int) % 256 % 256 = (c.toNat : Int) := by omega
      have hq : (m : Int) / 256 = ((m / 256 : Nat) : Int) := by omega
      have HN := Lib.hid (S.le8_next x k m HM.out)
      have HTK := Lib.hid htk
      have hs2 := hb.size
      obtain ⟨m', hm'⟩ : ∃ m', m / 256 = m' := ⟨_, rfl⟩
      have hm2 : m' < 18446744073709551616 := by omega
      rw [hm'] at hq HN
      clear hc htk hcm HM hm'
      go_wp2_with (at_builtin; refine wpList_append_any _ rfl _ _ 22 rfl w.heap.size 5 i0 (.int .u8 0) 1 1 Try.underlying22 hi hz0 hz1 hz2 rfl (by decide) _ _ _ rfl (hown.alloc _) _ _ 1 1 [.int .u8 (c.toNat : Int)] rfl (Reads.new wr [.int .u8 (c.toNat : Int)] 5 1 rfl) (by simp [Value.oneCell']) (by unfold maxLen; omega) (by omega) (by simp; omega) ?_; intro v' w2 hown' hgrow hat)
      go_roundw
      case rel => exact ⟨k + 1, m', by omega, by go_num, by first | rfl | go_num, hm2, HN, by rw [HTK.out, ← List.append_assoc, ← bv_snoc]; exact hown', (hb.alloc hb.size _).grown hgrow (by simp; omega) (fun k e => (own_from hown k e).1)⟩
      case measure => simp [intOf]; omega
    · have hk8 : k = 8 := by omega
      subst hk8
      rw [List.take_of_length_le (by rw [S.le8_len]; exact Nat.le_refl _)] at hown
      have hs2 := hb.size
      have hrb := hr.below hb
      go_wp2_with (at_builtin; refine wpList_append_any _ rfl _ _ 22 rfl w.heap.size 5 i0 (.int .u8 0) 1 1 Try.underlying22 hi hz0 hz1 hz2 rfl (by decide) _ _ _ rfl hown _ A len cap (bv bs) rfl hrb (bv_one bs) (by unfold maxLen; omega) (by omega) hs2 ?_; intro v' w2 hown' hgrow hat)
      have hb9 := hb.grown hgrow hs2 (fun k e => (own_from hown k e).1)
      rw [show bv (E ++ S.le8 x) ++ bv bs = bv (S.frame bs) by rw [HFR.out]; simp [bv]] at hown'
      obtain ⟨A', c', rfl, hc', _, h'⟩ := own_reads hown'
      go_wp2_with fail
      go_ret
      exact ⟨A', c', rfl, hc', h', hb9⟩
end Go.Proofs.Ytfanhbemmjcomaa
namespace Go.Proofs.Ytfanhbemmjcomaa
open Go.RowKit
set_option linter.unusedVariables false
namespace S
/-- A record's cells: whether it is an object, its bytes, its name, its key. -/
def R.ob : R → Bool | .obj _ => true | .bind _ _ => false
def R.bs : R → List UInt8 | .obj b => b | .bind _ _ => []
def R.nm : R → UInt64 | .obj _ => 0 | .bind n _ => n
def R.ky : R → UInt64 | .obj _ => 0 | .bind _ k => k
theorem enc1 : (V.enc 1).length = 1 := by decide
theorem enc2 : (V.enc 2).length = 1 := by decide
end S

set_option maxRecDepth 10000 in
set_option maxHeartbeats 2000000 in
theorem payload_any (r : S.R) (ob : Bool) (kl n : Nat) (nm ky : UInt64) (hob : r.ob = ob) (hkl : r.bs.length = kl) (hnm : r.nm = nm) (hky : r.ky = ky) (hn : (S.payload r).length = n) (Ab : Option Addr) (cb : Nat) (hlim : kl ≤ 100000) (w : World) (hr : Reads w w.heap.size 1 Ab kl (bv r.bs)) :
    Calls Try.prog 56 #[.agg #[.bool ob, .slice Ab kl cb, .int .u64 (nm.toNat : Int), .int .u64 (ky.toNat : Int)]] w fun e w' => ∃ A' c', e = .returned (.slice A' n c') ∧ n ≤ c' ∧ w'.ownsRow w.heap.size 5 1 (.slice A' n c') n (bv (S.payload r)) ∧ Below w.heap.size w w' := by
  obtain ⟨i0, hi, hz0, hz1, hz2⟩ := info_parts infoByte
  obtain ⟨w1, hw1⟩ : ∃ x, w.alloc (.cells #[.bool ob, .slice Ab kl cb, .int .u64 (nm.toNat : Int), .int .u64 (ky.toNat : Int)] 71) = x := ⟨_, rfl⟩
  have hd1 : Below w.heap.size w w1 := by rw [← hw1]; exact (Below.refl _ _).alloc (Nat.le_refl _) _
  have hfo := Four.new w 71 (.bool ob) (.slice Ab kl cb) (.int .u64 (nm.toNat : Int)) (.int .u64 (ky.toNat : Int))
  rw [hw1] at hfo
  have hr1 := hr.later hd1
  have hs1 : w1.heap.size = w.heap.size + 1 := by rw [← hw1]; simp
  have hdd : Below w1.heap.size w1 w1.drew := Below.drew (Below.refl w1.heap.size w1)
  have hfd : Four w1.drew w.heap.size 71 (.bool ob) (.slice Ab kl cb) (.int .u64 (nm.toNat : Int)) (.int .u64 (ky.toNat : Int)) := hfo.below hdd
  have hbd := blater hd1 (Nat.le_refl _) hdd
  have c0 := hfo.cell0
  have d1 := hfd.cell1
  have d2 := hfd.cell2
  have hrd := hr1.later hdd
  have hu := fun x W => refUint_any x W
  match r, hob, hkl, hnm, hky, hn with
  | .obj bs, hob, hkl, hnm, hky, hn =>
    obtain rfl : true = ob := hob
    obtain rfl : (0 : UInt64) = nm := hnm
    obtain rfl : (0 : UInt64) = ky := hky
    have hrd : Reads w1.drew w1.drew.heap.size 1 Ab kl (bv bs) := hrd
    have hkl : bs.length = kl := hkl
    have hrb := fun W h => refBytes_any Ab kl cb bs hkl (by omega) W h
    have h1 := hu 1
    obtain ⟨E1, hE1⟩ : ∃ E, V.enc 1 = E := ⟨_, rfl⟩
    have hl1 : E1.length = 1 := by rw [← hE1]; exact S.enc1
    obtain ⟨E2, hE2⟩ : ∃ E, V.enc (UInt64.ofNat kl) ++ bs = E := ⟨_, rfl⟩
    obtain ⟨k2, hk2⟩ : ∃ k, E2.length = k := ⟨_, rfl⟩
    have hk2b : k2 ≤ kl + 10 := by rw [← hk2, ← hE2, List.length_append]; have := (V.enc_len (UInt64.ofNat kl)).2; omega
    have hp : S.payload (.obj bs) = E1 ++ E2 := by rw [← hE1, ← hE2, ← hkl]; rfl
    have hnk : n = 1 + k2 := by rw [← hn, hp, List.length_append]; omega
    simp only [hE1, hl1] at h1
    simp only [hE2, hk2] at hrb
    have HP := Lib.hid hp
    have HU : Hid (∀ W : World, Calls Try.prog 68 #[.int .u64 1] W fun e w' => ∃ v, e = .returned v ∧ w'.ownsRow W.heap.size 5 1 v 1 (bv E1) ∧ Below W.heap.size W w') := Lib.hid h1
    have HB := Lib.hid hrb
    clear hp hn h1 hrb hE2 hk2 hl1 hE1 hu hr hr1 hkl hfo
    subst hnk
    go_enter Try.func56, Try.ntmps56
    go_wp2_with fail
    have hw1 : w.alloc (.cells #[.bool true, .slice Ab kl cb, .int .u64 0, .int .u64 0] 71) = w1 := hw1
    try rw [hw1]
    clear hw1
    go_wp2_with fail
    go_region_law (first
      | (refine step_append_any (by rfl) _ _ 22 (by rfl) w.heap.size 5 i0 (.int .u8 0) 1 1 Try.underlying22 hi hz0 hz1 hz2 rfl (by omega) (.slice A2 1 c2) 1 (bv E1) (by rfl) hown2' w3.heap.size A3 k2 c3 (bv E2) (by rfl) hr3 (bv_one E2) (by unfold maxLen; omega) (by omega) hs3 ?_; intro A9 c9 w5 hown5 hgrow hat; have hb5 := hb3.grown hgrow hs3 (fun k e => (own_from hown2' k e).1))
      | (go_simp; go_at_call 68; refine (HU.out _).mono ?_; rintro e w2 ⟨v2, rfl, hown2, hd2⟩; have hb2 := blater hbd (Nat.le_refl _) hd2; obtain ⟨A2, c2, rfl, hc2, _, hown2⟩ := own_reads hown2; have e1 := (hfd.below hd2).cell1; have hr2 := hrd.later hd2)
      | (go_simp; go_at_call 69; refine (HB.out _ hr2).mono ?_; rintro e w3 ⟨v3, rfl, hown3, hd3⟩; have hb3 := blater hb2 (Nat.le_refl _) hd3; obtain ⟨A3, c3, rfl, hc3, hr3, _⟩ := own_reads hown3; have hown2' := own_mono (own_below hown2 hd3) hbd.size; have hs3 := hb3.size))
    all_goals
      rw [show bv E1 ++ bv E2 = bv (S.payload (.obj bs)) by rw [HP.out]; simp [bv]] at hown5
      go_wp2_with fail
      go_ret
      obtain ⟨A', c', e, hc', _, h'⟩ := own_reads hown5
      cases e
      exact ⟨_, _, rfl, hc', h', hb5⟩
  | .bind x k, hob, hkl, hnm, hky, hn =>
    obtain rfl : false = ob := hob
    obtain rfl : x = nm := hnm
    obtain rfl : k = ky := hky
    have h1 := hu 2
    have h2 := hu x
    have h3 := hu k
    obtain ⟨E1, hE1⟩ : ∃ E, V.enc 2 = E := ⟨_, rfl⟩
    have hl1 : E1.length = 1 := by rw [← hE1]; exact S.enc2
    obtain ⟨E2, hE2⟩ : ∃ E, V.enc x = E := ⟨_, rfl⟩
    obtain ⟨k2, hk2⟩ : ∃ k, E2.length = k := ⟨_, rfl⟩
    have hk2b : k2 ≤ 10 := by rw [← hk2, ← hE2]; exact (V.enc_len x).2
    obtain ⟨E3, hE3⟩ : ∃ E, V.enc k = E := ⟨_, rfl⟩
    obtain ⟨k3, hk3⟩ : ∃ k, E3.length = k := ⟨_, rfl⟩
    have hk3b : k3 ≤ 10 := by rw [← hk3, ← hE3]; exact (V.enc_len k).2
    have hp : S.payload (.bind x k) = E1 ++ E2 ++ E3 := by rw [← hE1, ← hE2, ← hE3]; rfl
    have hnk : n = 1 + k2 + k3 := by rw [← hn, hp, List.length_append, List.length_append]; omega
    simp only [hE1, hl1] at h1
    simp only [hE2, hk2] at h2
    simp only [hE3, hk3] at h3
    have HP := Lib.hid hp
    have HU : Hid (∀ W : World, Calls Try.prog 68 #[.int .u64 2] W fun e w' => ∃ v, e = .returned v ∧ w'.ownsRow W.heap.size 5 1 v 1 (bv E1) ∧ Below W.heap.size W w') := Lib.hid h1
    have HU2 := Lib.hid h2
    have HU3 := Lib.hid h3
    clear hp hn h1 h2 h3 hE2 hk2 hE3 hk3 hl1 hE1 hu hr hr1 hkl hfo hrd d1
    subst hnk
    go_enter Try.func56, Try.ntmps56
    go_wp2_with fail
    have hw1 : w.alloc (.cells #[.bool false, .slice Ab kl cb, .int .u64 (x.toNat : Int), .int .u64 (k.toNat : Int)] 71) = w1 := hw1
    try rw [hw1]
    clear hw1
    go_wp2_with fail
    go_region_law (first
      | (refine step_append_any (by rfl) _ _ 22 (by rfl) w.heap.size 5 i0 (.int .u8 0) 1 1 Try.underlying22 hi hz0 hz1 hz2 rfl (by omega) (.slice A2 1 c2) 1 (bv E1) (by rfl) hown2' w3.heap.size A3 k2 c3 (bv E2) (by rfl) hr3 (bv_one E2) (by unfold maxLen; omega) (by omega) hs3 ?_; intro A9 c9 w5 hown5 hgrow hat; have hb5 := hb3.grown hgrow hs3 (fun k e => (own_from hown2' k e).1); have hf5 := hf3.block (hgrow.block _ hf3.lt (hf3.not_row (by decide) hown2')); have g3 := hf5.cell3)
      | (have hguard := hf2; go_simp; go_at_call 68; refine (HU2.out _).mono ?_; rintro e w3 ⟨v3, rfl, hown3, hd3⟩; have hb3 := blater hb2 (Nat.le_refl _) hd3; obtain ⟨A3, c3, rfl, hc3, hr3, _⟩ := own_reads hown3; have hf3 := hf2.below hd3; have hown2' := own_mono (own_below hown2 hd3) hbd.size; have hs3 := hb3.size; clear hguard)
      | (go_simp; go_at_call 68; refine (HU.out _).mono ?_; rintro e w2 ⟨v2, rfl, hown2, hd2⟩; have hb2 := blater hbd (Nat.le_refl _) hd2; obtain ⟨A2, c2, rfl, hc2, _, hown2⟩ := own_reads hown2; have hf2 := hfd.below hd2; have e2 := hf2.cell2))
    all_goals
      have hs5 := hb5.size
      clear hfd hf2 hf3 hown2 hown2' hown3 hr3 hgrow hat hd2 hd3 hb2 hb3
      go_wp2_with fail
      refine (HU3.out _).mono ?_
      rintro e w6 ⟨v6, rfl, hown6, hd6⟩
      obtain ⟨A6, c6, rfl, hc6, hr6, _⟩ := own_reads hown6
      have hb6 := blater hb5 (Nat.le_refl _) hd6
      have hown5 := own_below hown5 hd6
      have hs6 := hb6.size
      go_wp2_with (at_builtin; refine wpList_append_any _ rfl _ _ 22 rfl w.heap.size 5 i0 (.int .u8 0) 1 1 Try.underlying22 hi hz0 hz1 hz2 rfl (by decide) _ _ _ rfl hown5 _ A6 k3 c6 (bv E3) rfl hr6 (bv_one E3) (by unfold maxLen; omega) (by omega) hs6 ?_; intro v' w7 hown' hgrow hat)
      have hb9 := hb6.grown hgrow hs6 (fun k e => (own_from hown5 k e).1)
      rw [show bv E1 ++ bv E2 ++ bv E3 = bv (S.payload (.bind x k)) by rw [HP.out]; simp [bv]] at hown'
      obtain ⟨A', c', rfl, hc', _, h'⟩ := own_reads hown'
      go_wp2_with fail
      go_ret
      exact ⟨_, _, rfl, hc', h', hb9⟩
end Go.Proofs.Ytfanhbemmjcomaa
