/- The walks of the laws on the hash: each law's body returns true, and nothing that lay before has turned. -/
import Derived.Test.YtfdcfbpflgbjgaaHashLives
namespace Go.Proofs.Ytfdcfbpflgbjgaa
open Go.RowKit
set_option linter.unusedVariables false

/-- A slice of integers that came in: it is nil; or it leads to a row of 'cap' cells, the numbers zs (the first 'len' are its elements), each fitting its kind. -/
def IsRow (k : IntKind) (w : World) (a : Option Addr) (len cap : Nat) (zs : List Int) : Prop :=
  (a = none ∧ len = 0 ∧ cap = 0 ∧ zs = []) ∨
  ∃ x, a = some x ∧ len ≤ cap ∧ cap ≤ maxLen ∧ zs.length = cap ∧ (∀ i, i < zs.length → w.cell? (x.add i) = some (.int k (zs.getD i 0))) ∧ ∀ n ∈ zs, (Lit.int k n).wf = true

theorem cell_lt {w : World} {p : Addr} {v : Value} (h : w.cell? p = some v) : p.block < w.heap.size := by
  rcases Nat.lt_or_ge p.block w.heap.size with hlt | hge
  · exact hlt
  · have hn : w.heap[p.block]? = none := Array.getElem?_eq_none hge
    unfold World.cell? at h
    rw [hn] at h
    cases h
theorem isRow_ints {w : World} {a : Option Addr} {len cap : Nat} {zs : List Int} (h : IsRow .i64 w a len cap zs) :
    ∃ l : List Int, l.length = len ∧ len ≤ cap ∧ cap ≤ 9223372036854775807 ∧ Reads w w.heap.size 1 a len (iv l) ∧ ∀ n ∈ l, (Lit.int .i64 n).wf = true := by
  rcases h with ⟨rfl, rfl, rfl, rfl⟩ | ⟨x, rfl, hl, hm, hz, hc, hw⟩
  · exact ⟨[], rfl, Nat.le_refl _, by omega, Reads.none_, by simp⟩
  · refine ⟨zs.take len, by simp; omega, hl, hm, ⟨by simp [iv]; omega, fun hn => ⟨x, rfl, ?_, fun j u hu => ?_⟩⟩, fun n hn => hw n (List.mem_of_mem_take hn)⟩
    · have := cell_lt (hc 0 (by omega))
      rwa [block_of_add] at this
    · obtain ⟨y, hy, rfl⟩ := iv_at hu
      rw [List.getElem?_take] at hy
      split at hy
      · have hj : j < zs.length := by omega
        rw [hc j hj, List.getD, hy]; rfl
      · cases hy
def toByte (n : Int) : UInt8 := UInt8.ofNat n.toNat
theorem toByte_back {n : Int} (h : (Lit.int .u8 n).wf = true) : ((toByte n).toNat : Int) = n := by
  have hx : 0 ≤ n ∧ n ≤ 255 := by simpa [Lit.wf, IntKind.min, IntKind.max, IntKind.signed, IntKind.bits] using h
  unfold toByte
  rw [UInt8.toNat_ofNat_of_lt' (by show _ < 256; omega)]
  omega
theorem isRow_bytes {w : World} {a : Option Addr} {len cap : Nat} {zs : List Int} (h : IsRow .u8 w a len cap zs) :
    ∃ l : List UInt8, l.length = len ∧ len ≤ cap ∧ cap ≤ 9223372036854775807 ∧ Reads w w.heap.size 1 a len (bv l) := by
  rcases h with ⟨rfl, rfl, rfl, rfl⟩ | ⟨x, rfl, hl, hm, hz, hc, hw⟩
  · exact ⟨[], rfl, Nat.le_refl _, by omega, Reads.none_⟩
  · refine ⟨(zs.take len).map toByte, by simp; omega, hl, hm, ⟨by simp [bv]; omega, fun hn => ⟨x, rfl, ?_, fun j u hu => ?_⟩⟩⟩
    · have := cell_lt (hc 0 (by omega))
      rwa [block_of_add] at this
    · obtain ⟨y, hy, rfl⟩ := bv_at hu
      rw [List.getElem?_map, List.getElem?_take] at hy
      split at hy
      · have hj : j < zs.length := by omega
        rw [List.getElem?_eq_getElem hj] at hy
        injection hy with hy
        rw [← hy, toByte_back (hw _ (List.getElem_mem hj)), hc j hj, List.getD, List.getElem?_eq_getElem hj]; rfl
      · cases hy
theorem wf_bd {n : Int} (h : (Lit.int .i64 n).wf = true) : -9223372036854775808 ≤ n ∧ n ≤ 9223372036854775807 := by
  simpa [Lit.wf, IntKind.min, IntKind.max, IntKind.signed, IntKind.bits] using h

theorem rsum_val (x : UInt64) (s : ByteArray) (hs : s.size ≤ 1000000) (A : Option Addr) (len cap : Nat) (l : List Int) (hl : l.length = len) (hlen : len ≤ 1000000) (hx : H.sum s.data.toList (wv l) = x) (w : World) (hrd : Reads w w.heap.size 1 A len (iv l)) :
    Calls Try.prog 14 #[.string s, .slice A len cap] w fun e W' => e = .returned (.int .u64 (x.toNat : Int)) ∧ Below w.heap.size w W' := by
  subst hx; exact rsum_any s hs A len cap l hl hlen w hrd
theorem rbytes_val (x : UInt64) (s : ByteArray) (hs : s.size ≤ 1000000) (A : Option Addr) (len cap : Nat) (bs : List UInt8) (hl : bs.length = len) (hlen : len ≤ 1000000) (hx : H.bytes s.data.toList bs = x) (w : World) (hrd : Reads w w.heap.size 1 A len (bv bs)) :
    Calls Try.prog 18 #[.string s, .slice A len cap] w fun e W' => e = .returned (.int .u64 (x.toNat : Int)) ∧ Below w.heap.size w W' := by
  subst hx; exact rbytes_any s hs A len cap bs hl hlen w hrd

set_option maxHeartbeats 1000000 in
theorem hashSum_walk (a0 : ByteArray) (a1 : Option Addr) (len1 cap1 : Nat) (z1 : List Int) (w : World) (w0 : a0.size ≤ maxLen) (w1 : IsRow .i64 w a1 len1 cap1 z1) :
    Calls Try.prog 3 #[.string a0, .slice a1 len1 cap1] w fun e w' => e = .returned (.bool true) ∧ Below w.heap.size w w' := by
  obtain ⟨l, hl, hc, hm, hr, hw⟩ := isRow_ints w1
  clear w1
  have hc1 := ints_any a1 len1 cap1 12 l hl hc hm (by omega)
  clear hl
  go_enter Try.func3, Try.ntmps3
  go_wp2_with fail
  refine (short_any a0 40 w0 (by omega) _).mono ?_
  rintro e w' ⟨⟨s, rfl, hs, _⟩, rfl⟩
  go_wp2_with fail
  refine (hc1 _ hr).mono ?_
  rintro e w2 ⟨v, rfl, hown, hb2⟩
  clear hc1
  obtain ⟨A2, c2, rfl, hc2, hr2, _⟩ := own_reads hown
  obtain ⟨m, hm2⟩ : ∃ m, min len1 12 = m := ⟨_, rfl⟩
  have hm12 : m ≤ 12 := by omega
  have hml : (iv (l.take 12)).length = m := by have := hown.1; rw [hm2] at this; omega
  rw [ints_len] at hml
  rw [hm2] at hr2 ⊢
  have HML := Lib.hid hml
  clear hown hm2 hml
  obtain ⟨x, hx⟩ : ∃ x, H.sum s.data.toList (wv (l.take 12)) = x := ⟨_, rfl⟩
  obtain ⟨y, hy⟩ : ∃ y, H.sum s.data.toList (wv []) = y := ⟨_, rfl⟩
  have HX := Lib.hid hx
  have HY := Lib.hid hy
  clear hx hy
  go_wp2_with fail
  refine (sum_val x s (by omega) _ _ _ _ HML.out (by omega) HX.out _ hr2).mono ?_
  rintro e w3 ⟨rfl, hb3⟩
  have hr3 := (hr2.below hb3).more hb3.size
  have hb := hb2.trans (hb3.mono hb2.size)
  clear hr2 hb2 hb3
  go_wp2_with fail
  refine (rsum_val x s (by omega) _ _ _ _ HML.out (by omega) HX.out _ hr3).mono ?_
  rintro e w4 ⟨rfl, hb4⟩
  have hb' := hb.trans (hb4.mono hb.size)
  clear hr3 hb hb4
  go_wp2_with fail
  refine (sum_val y s (by omega) _ 0 _ [] rfl (by omega) HY.out _ Reads.none_).mono ?_
  rintro e w5 ⟨rfl, hb5⟩
  have hb5' := hb'.trans (hb5.mono hb'.size)
  clear hb' hb5
  go_wp2_with fail
  refine (rsum_val y s (by omega) _ 0 _ [] rfl (by omega) HY.out _ Reads.none_).mono ?_
  rintro e w6 ⟨rfl, hb6⟩
  have hb6' := hb5'.trans (hb6.mono hb5'.size)
  clear hb5' hb6
  go_wp2_with fail
  refine (lives_any _).mono ?_
  rintro e w7 ⟨rfl, hb7⟩
  have hb7' := hb6'.trans (hb7.mono hb6'.size)
  clear hb6' hb7
  go_wp2_with fail
  go_ret
  exact ⟨rfl, hb7'⟩
end Go.Proofs.Ytfdcfbpflgbjgaa
