/- store.checksum and store.frame. -/
import Derived.Test.YtfanhbemmjcomaaStBytes
import Derived.Test.YtfanhbemmjcomaaHashRef2
namespace Go.Proofs.Ytfanhbemmjcomaa
open Go.RowKit
set_option linter.unusedVariables false

theorem S.le8_take (x : UInt64) (k : Nat) (hk : k < 8) : (S.le8 x).take (k + 1) = (S.le8 x).take k ++ [UInt8.ofNat (x.toNat / 256 ^ k)] := by
  have : (S.le8 x)[k]? = some (UInt8.ofNat (x.toNat / 256 ^ k)) := by
    unfold S.le8
    rw [List.getElem?_map, List.getElem?_range hk]; rfl
  rw [List.take_add_one, this]; rfl
theorem S.byte_form (x : UInt64) (k : Nat) : (x.toNat : Int) / 2 ^ (8 * k) % 256 = ((UInt8.ofNat (x.toNat / 256 ^ k)).toNat : Int) := by
  have e : (2 : Int) ^ (8 * k) = ((256 ^ k : Nat) : Int) := by
    rw [show (256 : Nat) = 2 ^ 8 from rfl, ← Nat.pow_mul]; simp
  rw [e]
  have h : (UInt8.ofNat (x.toNat / 256 ^ k)).toNat = x.toNat / 256 ^ k % 256 := by simp
  rw [h]
  obtain ⟨m, hm⟩ : ∃ m, 256 ^ k = m := ⟨_, rfl⟩
  rw [hm, ← Int.natCast_ediv]
  omega
set_option maxRecDepth 10000 in
set_option maxHeartbeats 1000000 in
theorem checksum_any (A : Option Addr) (len cap : Nat) (bs : List UInt8) (hl : bs.length = len) (hlen : len ≤ 1000000) (w : World) (hr : Reads w w.heap.size 1 A len (bv bs)) :
    Calls Try.prog 48 #[.slice A len cap] w fun e w' => ∃ v, e = .returned v ∧ w'.ownsRow w.heap.size 5 1 v 8 (bv (S.le8 (S.crc bs))) ∧ Below w.heap.size w w' := by
  obtain ⟨i0, hi, hz0, hz1, hz2⟩ := info_parts infoByte
  have hh := fun W h => bytes_any ⟨#[102, 114, 97, 109, 101]⟩ (by decide) A len cap bs hl hlen W h
  have hh : ∀ W, Reads W W.heap.size 1 A len (bv bs) → Calls Try.prog 18 #[.string ⟨#[102, 114, 97, 109, 101]⟩, .slice A len cap] W fun e W' => e = .returned (.int .u64 ((S.crc bs).toNat : Int)) ∧ Below W.heap.size W W' := hh
  obtain ⟨x, hx⟩ : ∃ x, S.crc bs = x := ⟨_, rfl⟩
  rw [hx]
  simp only [hx] at hh
  have HH := Lib.hid hh
  clear hx hl hh
  go_enter Try.func48, Try.ntmps48
  go_wp2_with fail
  refine (HH.out _ hr).mono ?_
  rintro e w1 ⟨rfl, hb⟩
  clear HH
  have hsz := hb.size
  go_wp2_with fail
  go_loopw [3, 5] (fun v i wr => ∃ k : Nat, k ≤ 8 ∧ i = .int .i64 (k : Int) ∧ wr.ownsRow w.heap.size 5 1 v k (bv ((S.le8 x).take k)) ∧ Below w.heap.size w wr) (fun _ i _ => 8 - (intOf i).toNat)
  case atStart => exact ⟨0, Nat.zero_le _, rfl, by simpa [bv] using World.ownsRow_nil _ _ _ _, hb⟩
  case round =>
    obtain ⟨k, hk, rfl, hown, hb2⟩ := hrel
    by_cases hlt : k < 8
    · have hi2 : (k : Int) < 8 := by omega
      have hi1 : (0 : Int) ≤ (k : Int) := by omega
      have hsh := S.byte_form x k
      have htk := S.le8_take x k hlt
      obtain ⟨c, hc⟩ : ∃ c, UInt8.ofNat (x.toNat / 256 ^ k) = c := ⟨_, rfl⟩
      rw [hc] at hsh htk
      have HTK := Lib.hid htk
      have hs2 := hb2.size
      clear hc htk
      go_wp2_with (at_builtin; refine wpList_append_any _ rfl _ _ 22 rfl w.heap.size 5 i0 (.int .u8 0) 1 1 Try.underlying22 hi hz0 hz1 hz2 rfl (by decide) _ _ _ rfl (hown.alloc _) _ _ 1 1 [.int .u8 (c.toNat : Int)] rfl (Reads.new wr [.int .u8 (c.toNat : Int)] 5 1 rfl) (by simp [Value.oneCell']) (by unfold maxLen; omega) (by omega) (by simp; omega) ?_; intro v' w2 hown' hgrow hat)
      go_roundw
      case rel => exact ⟨k + 1, by omega, by go_num, by rw [HTK.out, ← bv_snoc]; exact hown', (hb2.alloc hb2.size _).grown hgrow (by simp; omega) (fun k e => (own_from hown k e).1)⟩
      case measure => simp [intOf]; omega
    · have hk8 : k = 8 := by omega
      subst hk8
      go_wp2_with fail
      go_ret
      exact ⟨_, rfl, by rw [List.take_of_length_le (by rw [S.le8_len]; exact Nat.le_refl _)] at hown; exact hown, hb2⟩

theorem own_mono {w : World} {base base' : Nat} {e : TypeId} {size : Nat} {v : Value} {n : Nat} {xs : List Value} (h : w.ownsRow base e size v n xs) (hb : base' ≤ base) : w.ownsRow base' e size v n xs := by
  refine ⟨h.1, ?_⟩
  rcases h.2 with h | ⟨g, cap, cur, h1, h2, h3⟩
  · exact .inl h
  · exact .inr ⟨g, cap, cur, h1, Nat.le_trans hb h2, h3⟩
/-- An owned row's length, its value written out. -/
theorem own_k {W : World} {b k : Nat} {e : TypeId} {v : Value} {l : List UInt8} (h : W.ownsRow b e 1 v k (bv l)) : ∃ A c, v = .slice A k c ∧ k ≤ c ∧ l.length = k ∧ W.ownsRow b e 1 (.slice A k c) k (bv l) ∧ Reads W W.heap.size 1 A k (bv l) := by
  have hl : l.length = k := by have := h.1; simp [bv] at this; omega
  obtain ⟨A, c, rfl, hc, h1, h2⟩ := own_reads h
  exact ⟨A, c, rfl, hc, hl, h2, h1⟩
set_option maxRecDepth 10000 in
set_option maxHeartbeats 1000000 in
theorem frame_any (A : Option Addr) (len cap : Nat) (bs : List UInt8) (hl : bs.length = len) (hlen : len ≤ 500000) (w : World) (hr : Reads w w.heap.size 1 A len (bv bs)) :
    Calls Try.prog 37 #[.slice A len cap] w fun e w' => ∃ v, e = .returned v ∧ w'.ownsRow w.heap.size 5 1 v (S.frame bs).length (bv (S.frame bs)) ∧ Below w.heap.size w w' := by
  have HL := Lib.hid hl
  clear hl
  have ho := OutAt.new w
  have hd0 : Below w.heap.size w (w.alloc (.cells #[.slice none 0 0] 32)) := (Below.refl _ _).alloc (Nat.le_refl _) _
  have hr0 := hr.later hd0
  go_enter Try.func37, Try.ntmps37
  go_wp2_with fail
  refine (outUint_nat _ _ [] len (by omega) (by simp) _ ho).mono ?_
  rintro e w1 ⟨rfl, ho1, ht1⟩
  have hb1 := hd0.trans (ht1.below ho)
  have hr1 := hr.later hb1
  rw [List.nil_append] at ho1
  obtain ⟨E, hE⟩ : ∃ E, V.enc (UInt64.ofNat len) = E := ⟨_, rfl⟩
  have hEl : E.length ≤ 10 := by rw [← hE]; exact (V.enc_len _).2
  obtain ⟨ke, hke⟩ : ∃ k, E.length = k := ⟨_, rfl⟩
  rw [hE] at ho1
  have HE := Lib.hid hE
  have HKE := Lib.hid hke
  clear hE hr0
  go_wp2_with fail
  refine (done_reads _ _ ke E HKE.out (by omega) _ ho1).mono ?_
  rintro e w2 ⟨A2, c2, rfl, hc2, hown2, hd2⟩
  have hb2 := blater hb1 (Nat.le_refl _) hd2
  clear hke
  go_wp2_with fail
  refine (checksum_any A len cap bs HL.out (by omega) _ (hr.later hb2)).mono ?_
  rintro e w3 ⟨v3, rfl, hown3, hd3⟩
  have hb3 := blater hb2 (Nat.le_refl _) hd3
  obtain ⟨A3, c3, rfl, hc3, hk3, hown3, _⟩ := own_k hown3
  have hown2 := own_below hown2 hd3
  have HK3 := Lib.hid hk3
  clear hk3
  go_wp2_with fail
  obtain ⟨w4, hw4⟩ : ∃ x, w3.alloc (.cells #[.slice A2 ke c2, .slice A3 8 c3, .slice A len cap] 22) = x := ⟨_, rfl⟩
  have hd4 : Below w3.heap.size w3 w4 := by rw [← hw4]; exact (Below.refl _ _).alloc (Nat.le_refl _) _
  have hs4 : w4.heap.size = w3.heap.size + 1 := by rw [← hw4]; simp
  have hb4 := blater hb3 (Nat.le_refl _) hd4
  have hcell : ∀ i, w4.cell? ⟨w3.heap.size, i, none⟩ = (#[Value.slice A2 ke c2, .slice A3 8 c3, .slice A len cap] : Array Value)[i]? := by
    intro i
    have := World.cell?_alloc_mark w3 #[.slice A2 ke c2, .slice A3 8 c3, .slice A len cap] 22 (0, 0) i
    rw [← hw4]; exact this
  have hrow : ∀ i xs, [E, S.le8 (S.crc bs), bs][i]? = some xs → ∃ A n c, w4.cell? ⟨w3.heap.size, i, none⟩ = some (.slice A n c) ∧ xs.length = n ∧ Reads w4 w4.heap.size 1 A n (bv xs) := by
    intro i xs hx
    match i, hx with
    | 0, hx => injection hx with hx; subst hx; exact ⟨A2, ke, c2, hcell 0, HKE.out, (Reads.of_own hown2).later hd4⟩
    | 1, hx => injection hx with hx; subst hx; exact ⟨A3, 8, c3, hcell 1, HK3.out, (Reads.of_own hown3).later hd4⟩
    | 2, hx => injection hx with hx; subst hx; exact ⟨A, len, cap, hcell 2, HL.out, hr.later hb4⟩
    | i + 3, hx => simp at hx
  have hflat : [E, S.le8 (S.crc bs), bs].flatten = S.frame bs := by
    unfold S.frame
    rw [HL.out, HE.out]; simp
  have hfl : (S.frame bs).length ≤ 1000000 := by have := S.frame_len bs; have := HL.out; omega
  have HF := Lib.hid hflat
  have hcc := concat_any w3.heap.size 3 (by omega) [E, S.le8 (S.crc bs), bs] rfl (by rw [HF.out]; exact hfl) w4 hrow (by rw [hs4]; omega)
  rw [hflat] at hcc
  rw [hw4]
  clear hw4 hflat hrow hcell hfl hs4 hown2 hown3 ho1 ho hd0 ht1 hr1
  refine hcc.mono ?_
  rintro e w5 ⟨v5, rfl, hown5, hd5⟩
  have hs := hb4.size
  have hb5 := blater hb4 (Nat.le_refl _) hd5
  go_wp2_with fail
  go_ret
  exact ⟨_, rfl, own_mono hown5 (by omega), hb5⟩
end Go.Proofs.Ytfanhbemmjcomaa
