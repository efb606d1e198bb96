/- The reference's encoder: Int, Bytes, Ints, Encode. -/
import Derived.Test.YtkjlafklhdojmaaWireRef
namespace Go.Proofs.Ytkjlafklhdojmaa
open Go.RowKit
set_option linter.unusedVariables false

theorem own_app {W : World} {b k : Nat} {e : TypeId} {v : Value} {l m : List UInt8} (h : W.ownsRow b e 1 v (l.length + k) (bv l ++ bv m)) (hk : m.length = k) : W.ownsRow b e 1 v (l ++ m).length (bv (l ++ m)) := by
  subst hk; rw [List.length_append, bv_app]; exact h
/-- What the own row v holds, v written out. -/
theorem own_out {W : World} {b : Nat} {e : TypeId} {v : Value} {l : List UInt8} (h : W.ownsRow b e 1 v l.length (bv l)) : ∃ A k c, v = .slice A k c ∧ k ≤ c ∧ l.length = k ∧ W.ownsRow b e 1 (.slice A k c) k (bv l) ∧ Reads W W.heap.size 1 A k (bv l) := by
  obtain ⟨A, c, rfl, hc, h1, h2⟩ := own_reads h
  exact ⟨A, _, c, rfl, hc, rfl, h2, h1⟩
theorem refUint_nat (n : Nat) (hn : n ≤ 10000000) (p : Int) (hp : p = (n : Int)) (w : World) :
    Calls Try.prog 41 #[.int .u64 p] w fun e w' => ∃ v, e = .returned v ∧ w'.ownsRow w.heap.size 5 1 v (V.enc (UInt64.ofNat n)).length (bv (V.enc (UInt64.ofNat n))) ∧ Below w.heap.size w w' := by
  have : (n : Int) = ((UInt64.ofNat n).toNat : Int) := by rw [UInt64.toNat_ofNat_of_lt' (by show _ < 18446744073709551616; omega)]
  rw [hp, this]; exact refUint_any _ w
set_option maxHeartbeats 400000 in
theorem refInt_any (n : Int) (h1 : -9223372036854775808 ≤ n) (h2 : n ≤ 9223372036854775807) (w : World) :
    Calls Try.prog 42 #[.int .i64 n] w fun e w' => ∃ v, e = .returned v ∧ w'.ownsRow w.heap.size 5 1 v (V.enc (V.zz n)).length (bv (V.enc (V.zz n))) ∧ Below w.heap.size w w' := by
  have hz := fun W => refZig_any n h1 h2 W
  clear h1 h2
  go_enter Try.func42, Try.ntmps42
  go_wp2_with fail
  refine (hz _).mono ?_
  rintro e w1 ⟨rfl, rfl⟩
  go_wp2_with fail
  refine (refUint_any _ _).mono ?_
  rintro e w1 ⟨v, rfl, hown, hb⟩
  go_wp2_with fail
  go_ret
  exact ⟨v, rfl, hown, hb⟩

set_option maxRecDepth 10000 in
set_option maxHeartbeats 1000000 in
theorem refBytes_any (A : Option Addr) (len cap : Nat) (bs : List UInt8) (hbl : bs.length = len) (hl : len ≤ 1000000) (w : World) (hr : Reads w w.heap.size 1 A len (bv bs)) :
    Calls Try.prog 43 #[.slice A len cap] w fun e w' => ∃ v, e = .returned v ∧ w'.ownsRow w.heap.size 5 1 v (V.enc (UInt64.ofNat len) ++ bs).length (bv (V.enc (UInt64.ofNat len) ++ bs)) ∧ Below w.heap.size w w' := by
  obtain ⟨i0, hi, hz0, hz1, hz2⟩ := info_parts infoByte
  have HL := Lib.hid hbl
  clear hbl
  have hone := bv_one bs
  obtain ⟨E, hE⟩ : ∃ E, V.enc (UInt64.ofNat len) = E := ⟨_, rfl⟩
  have hEl : E.length ≤ 10 := by rw [← hE]; exact (V.enc_len _).2
  have hu := fun W => refUint_nat len (by omega) len rfl W
  simp only [hE] at hu
  rw [hE]
  clear hE
  go_enter Try.func43, Try.ntmps43
  go_wp2_with fail
  refine (hu _).mono ?_
  rintro e w1 ⟨v, rfl, hown, hb⟩
  clear hu
  have hsz := hb.size
  have hr1 := hr.later hb
  obtain ⟨A1, k1, c1, rfl, hc1, hk1, hown1, _⟩ := own_out hown
  have HK1 := Lib.hid hk1
  have hk1' : k1 ≤ 10 := by omega
  clear hk1 hown
  go_wp2_with (at_builtin; refine wpList_append_any _ rfl _ _ 24 rfl w.heap.size 5 i0 (.int .u8 0) 1 1 Try.underlying24 hi hz0 hz1 hz2 rfl (by decide) _ _ _ rfl hown1 w1.heap.size A len cap (bv bs) rfl hr1 hone (by unfold maxLen; omega) (by omega) (by omega) ?_; intro v' w2 hown' hgrow hat)
  go_ret
  refine ⟨_, rfl, own_app (by rw [HK1.out]; exact hown') HL.out, hb.grown hgrow hsz (fun k e => (own_from hown1 k e).1)⟩

set_option maxRecDepth 10000 in
set_option maxHeartbeats 1000000 in
theorem refInts_any (A : Option Addr) (len cap : Nat) (is : List Int) (hil : is.length = len) (hib : ∀ n ∈ is, inr n) (hl : len ≤ 100000) (w : World) (hr : Reads w w.heap.size 1 A len (iv is)) :
    Calls Try.prog 44 #[.slice A len cap] w fun e w' => ∃ v, e = .returned v ∧ w'.ownsRow w.heap.size 5 1 v (V.enc (UInt64.ofNat len) ++ V.encI is).length (bv (V.enc (UInt64.ofNat len) ++ V.encI is)) ∧ Below w.heap.size w w' := by
  obtain ⟨i0, hi, hz0, hz1, hz2⟩ := info_parts infoByte
  have HL := Lib.hid hil
  have HB := Lib.hid hib
  clear hil hib
  obtain ⟨E, hE⟩ : ∃ E, V.enc (UInt64.ofNat len) = E := ⟨_, rfl⟩
  have hEl : E.length ≤ 10 := by rw [← hE]; exact (V.enc_len _).2
  have hu := fun W => refUint_nat len (by omega) len rfl W
  simp only [hE] at hu
  rw [hE]
  clear hE
  go_enter Try.func44, Try.ntmps44
  go_wp2_with fail
  refine (hu _).mono ?_
  rintro e w1 ⟨v, rfl, hown, hb⟩
  clear hu
  go_wp2_with fail
  go_loopw [3, 4] (fun v ix wr => ∃ k : Nat, k ≤ len ∧ ix = .int .i64 (k : Int) ∧ wr.ownsRow w.heap.size 5 1 v (E ++ V.encI (is.take k)).length (bv (E ++ V.encI (is.take k))) ∧ Below w.heap.size w wr) (fun _ ix _ => len - (intOf ix).toNat)
  case atStart => exact ⟨0, Nat.zero_le _, rfl, by simpa [V.encI] using hown, hb⟩
  case round =>
    obtain ⟨k, hk, rfl, hok, hB⟩ := hrel
    by_cases hlt : k < len
    · obtain ⟨ad, u, rfl, _, hu, hcell⟩ := (hr.below hB).at_ hlt
      obtain ⟨x, hx, rfl⟩ := iv_at hu
      have hxb : inr x := HB.out x (List.mem_of_getElem? hx)
      have hci := fun W => refInt_any x hxb.1 hxb.2 W
      have HX := Lib.hid hx
      have hElen : (V.enc (V.zz x)).length ≤ 10 := (V.enc_len _).2
      obtain ⟨F, hF⟩ : ∃ F, V.enc (V.zz x) = F := ⟨_, rfl⟩
      simp only [hF] at hci
      rw [hF] at hElen
      have HF := Lib.hid hF
      have hlenb : (E ++ V.encI (is.take k)).length ≤ 2000000 := by
        have h1 := V.encI_len (is.take k)
        have h2 : (is.take k).length ≤ k := List.length_take_le _ _
        rw [List.length_append]; omega
      obtain ⟨Av, kv, cv, rfl, hcv, hkv, hownv, _⟩ := own_out hok
      have hkv' : kv ≤ 2000000 := by omega
      have HKV := Lib.hid hkv
      clear hF hx hu hxb hkv hok hlenb
      go_wp2_with fail
      refine (hci _).mono ?_
      rintro e w2 ⟨v2, rfl, hown2, hb2⟩
      clear hci
      obtain ⟨A2, k2, c2, rfl, hc2, hk2, hown2b, hr2⟩ := own_out hown2
      have HK2 := Lib.hid hk2
      have hk2' : k2 ≤ 10 := by omega
      have hone := bv_one F
      have hownv2 := own_below hownv hb2
      have hsz2 := Nat.le_trans hB.size hb2.size
      clear hk2 hown2
      go_wp2_with (at_builtin; refine wpList_append_any _ rfl _ _ 24 rfl w.heap.size 5 i0 (.int .u8 0) 1 1 Try.underlying24 hi hz0 hz1 hz2 rfl (by decide) _ _ _ rfl hownv2 w2.heap.size A2 k2 c2 (bv F) rfl hr2 hone (by unfold maxLen; omega) (by omega) (by omega) ?_; intro v' w3 hown' hgrow hat)
      go_roundw
      case rel =>
        refine ⟨k + 1, by omega, by go_num, ?_, (blater hB (Nat.le_refl _) hb2).grown hgrow hsz2 (fun k e => (own_from hownv2 k e).1)⟩
        have := own_app (by rw [HKV.out]; exact hown') HK2.out
        rw [List.take_add_one, HX.out]
        simp only [Option.toList, V.encI_snoc]
        rw [HF.out, ← List.append_assoc]; exact this
      case measure => simp [intOf]; omega
    · have hkl := Lib.hid (show is.take k = is from List.take_of_length_le (by rw [HL.out]; omega))
      go_wp2_with fail
      go_ret
      exact ⟨_, rfl, by rw [← hkl.out]; exact hok, hB⟩
end Go.Proofs.Ytkjlafklhdojmaa
