/- Reading a frame's length; applying a record that is valid. -/
import Derived.Test.YtfanhbemmjcomaaStOps
import Derived.Test.YtfanhbemmjcomaaWirePlain3
import Derived.OwnWalk
namespace Go.Proofs.Ytfanhbemmjcomaa
open Go.RowKit
set_option linter.unusedVariables false

/-- A number that is cut off: not enough bytes. -/
theorem V.rd_cutF : ∀ (f i m : Nat) (acc : UInt64) (k : Nat), i + f = 9 → k < (V.encF f m).length → V.rdF i acc ((V.encF f m).take k) = (0, [], 7)
  | 0, i, m, acc, k, hif, hk => by
    obtain rfl : k = 0 := by simpa [V.encF] using hk
    rfl
  | f + 1, i, m, acc, 0, hif, hk => rfl
  | f + 1, i, m, acc, k + 1, hif, hk => by
    rcases Nat.lt_or_ge m 128 with hm | hm
    · rw [V.encF_small hm] at hk
      simp at hk
    · rw [V.encF_big hm] at hk ⊢
      have hc : (UInt8.ofNat (m % 128 + 128)).toNat = m % 128 + 128 := V.byte_nat _ (by omega)
      rw [List.take_succ_cons]
      unfold V.rdF
      rw [if_neg (by rw [hc]; omega), if_neg (by rw [hc]; omega)]
      exact V.rd_cutF f (i + 1) (m / 128) _ k (by omega) (by simpa using hk)
theorem V.rd_cut (n : UInt64) (k : Nat) (hk : k < (V.enc n).length) : V.rdUint ((V.enc n).take k, 0) = (0, ([], 7)) := by
  unfold V.rdUint
  rw [if_pos rfl]
  exact V.rd_cutF 9 0 n.toNat 0 k rfl hk

/-- What a reader turned: nothing below B. -/
theorem in_turn {B gi : Nat} {w w1 w2 : World} {T : TypeId} {s : V.St} (hb : Below B w w1) (hgi : B ≤ gi) (hin : InAt T w1 gi s) (hg : w1.grownBy w2 (some gi)) : Below B w w2 :=
  hb.trans ((only_below hg (Nat.le_of_lt hin.lt)).mono hgi)

set_option maxRecDepth 10000 in
set_option maxHeartbeats 1000000 in
theorem length_ok (A : Option Addr) (len cap : Nat) (bs rest : List UInt8) (u : UInt64) (ke : Nat) (hl : bs.length = len) (hlen : len ≤ 20000000) (hbs : bs = V.enc u ++ rest) (hu : u.toNat ≤ 131072) (hke : (V.enc u).length = ke) (w : World) (hr : Reads w w.heap.size 1 A len (bv bs)) :
    Calls Try.prog 46 #[.slice A len cap] w fun e w' => e = .returned (.tuple #[.int .i64 (u.toNat : Int), .int .i64 (ke : Int), .nilIface]) ∧ Below w.heap.size w w' := by
  have HRD := Lib.hid (show V.rdUint (bs, 0) = (u, (rest, 0)) by rw [hbs]; exact V.rd_enc u rest)
  have HL := Lib.hid hl
  have HKE := Lib.hid hke
  have hke2 : ke ≤ 10 := by rw [← hke]; exact (V.enc_len u).2
  have hu1 : ((u.toNat : Int) > 131072) = False := eq_false (by omega)
  have hu2 : ¬ (131072 : Int) < (u.toNat : Int) := by omega
  clear hl hbs hke
  go_enter Try.func46, Try.ntmps46
  go_wp2_with fail
  refine (newIn_any A len cap bs HL.out hlen w hr).mono ?_
  rintro e w1 ⟨gi, rfl, hgi, hin1, hb1⟩
  go_wp2_with fail
  refine (inUint_any gi _ w1 hin1).mono ?_
  rintro e w2 ⟨rfl, hin2, hg2⟩
  have hb2 := in_turn hb1 hgi hin1 hg2
  simp only [HRD.out] at hin2 ⊢
  clear hin1 hg2 hb1
  go_wp2_with fail
  refine (inErr_any gi _ w2 hin2).mono ?_
  rintro e w3 ⟨rfl, rfl⟩
  have ho := OutAt.new w2
  have hd0 : Below w2.heap.size w2 (w2.alloc (.cells #[.slice none 0 0] 32)) := (Below.refl _ _).alloc (Nat.le_refl _) _
  go_wp2_with fail
  refine (outUint_any _ _ [] u (by simp) _ ho).mono ?_
  rintro e w4 ⟨rfl, ho4, ht4⟩
  rw [List.nil_append] at ho4
  have hb4 := blater hb2 (Nat.le_refl _) (hd0.trans (ht4.below ho))
  go_wp2_with fail
  refine (done_reads _ _ ke (V.enc u) HKE.out (by omega) _ ho4).mono ?_
  rintro e w5 ⟨A5, c5, rfl, hc5, hown5, hd5⟩
  have hb5 := blater hb4 (Nat.le_refl _) hd5
  go_wp2_with fail
  go_ret3
  exact ⟨rfl, hb5⟩
set_option maxRecDepth 10000 in
set_option maxHeartbeats 1000000 in
theorem length_cut (A : Option Addr) (len cap : Nat) (bs : List UInt8) (hl : bs.length = len) (hlen : len ≤ 20000000) (hrd : V.rdUint (bs, 0) = (0, ([], 7))) (w : World) (hr : Reads w w.heap.size 1 A len (bv bs)) :
    Calls Try.prog 46 #[.slice A len cap] w fun e w' => e = .returned (.tuple #[.int .i64 0, .int .i64 0, .iface 27 (.int .i64 7)]) ∧ Below w.heap.size w w' := by
  have HRD := Lib.hid hrd
  have HL := Lib.hid hl
  clear hl hrd
  go_enter Try.func46, Try.ntmps46
  go_wp2_with fail
  refine (newIn_any A len cap bs HL.out hlen w hr).mono ?_
  rintro e w1 ⟨gi, rfl, hgi, hin1, hb1⟩
  go_wp2_with fail
  refine (inUint_any gi _ w1 hin1).mono ?_
  rintro e w2 ⟨rfl, hin2, hg2⟩
  have hb2 := in_turn hb1 hgi hin1 hg2
  simp only [HRD.out] at hin2 ⊢
  clear hin1 hg2 hb1
  go_wp2_with fail
  refine (inErr_any gi _ w2 hin2).mono ?_
  rintro e w3 ⟨rfl, rfl⟩
  go_wp2_with fail
  go_ret3
  exact ⟨rfl, hb2⟩
end Go.Proofs.Ytfanhbemmjcomaa
