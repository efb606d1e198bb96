/- The documented examples hold: lives returns true; nothing that lay before has turned. -/
import Derived.Test.YtkjlafklhdojmaaWireList
import Derived.Lib.SlBytesConst
namespace Go.Proofs.Ytkjlafklhdojmaa
open Go.RowKit
set_option linter.unusedVariables false

theorem outUint_lit (g base : Nat) (l m : List UInt8) (p : Int) (n : Nat) (hp : p = (n : Int)) (hn : n ≤ 10000000) (hl : l.length ≤ 10000000) (hm : l ++ V.enc (UInt64.ofNat n) = m) (w : World) (h : OutAt w base g l) :
    Calls Try.prog 12 #[.pointer (some ⟨g, 0, none⟩), .int .u64 p] w fun e w' => e = .returned (.tuple #[]) ∧ OutAt w' base g m ∧ OutTurn g w w' := by
  subst hp hm; exact outUint_nat g base l n hn hl w h
theorem outInt_val (g base : Nat) (l m : List UInt8) (n : Int) (h1 : -9223372036854775808 ≤ n) (h2 : n ≤ 9223372036854775807) (hl : l.length ≤ 10000000) (hm : l ++ V.enc (V.zz n) = m) (w : World) (h : OutAt w base g l) :
    Calls Try.prog 14 #[.pointer (some ⟨g, 0, none⟩), .int .i64 n] w fun e w' => e = .returned (.tuple #[]) ∧ OutAt w' base g m ∧ OutTurn g w w' := by
  subst hm; exact outInt_any g base l n h1 h2 hl w h
/-- Done, its result written out; all as the caller needs it. -/
theorem done_reads (g base k : Nat) (l : List UInt8) (hk : l.length = k) (hl : k ≤ 20000000) (w : World) (h : OutAt w base g l) :
    Calls Try.prog 15 #[.pointer (some ⟨g, 0, none⟩)] w fun e w' => ∃ A c, e = .returned (.slice A k c) ∧ k ≤ c ∧ w'.ownsRow w.heap.size 5 1 (.slice A k c) k (bv l) ∧ Below w.heap.size w w' := by
  subst hk
  refine (done_any g base l hl w h).mono ?_
  rintro e w' ⟨v, rfl, hown, hb⟩
  obtain ⟨A, c, rfl, hc, _, h2⟩ := own_reads hown
  exact ⟨A, c, rfl, hc, h2, hb⟩
theorem inUint_val (n : Nat) (s' : V.St) (g : Nat) (s : V.St) (hx : V.rdUint s = (UInt64.ofNat n, s')) (hn : n < 18446744073709551616) (w : World) (h : InAt 75 w g s) :
    Calls Try.prog 39 #[.pointer (some ⟨g, 0, none⟩)] w fun e w' => e = .returned (.int .u64 (n : Int)) ∧ InAt 75 w' g s' ∧ w.grownBy w' (some g) := by
  have := inUint_any g s w h
  rw [hx, UInt64.toNat_ofNat_of_lt' (show n < UInt64.size from hn)] at this
  exact this
theorem inInt_val (x : Int) (s' : V.St) (g : Nat) (s : V.St) (hx : V.rdInt s = (x, s')) (w : World) (h : InAt 75 w g s) :
    Calls Try.prog 40 #[.pointer (some ⟨g, 0, none⟩)] w fun e w' => e = .returned (.int .i64 x) ∧ InAt 75 w' g s' ∧ w.grownBy w' (some g) := by
  have := inInt_any g s w h
  rw [hx] at this
  exact this
theorem inBytes_val (l : List UInt8) (k : Nat) (s' : V.St) (g : Nat) (most : Int) (hm1 : -9223372036854775808 ≤ most) (hm2 : most ≤ 9223372036854775807) (s : V.St) (hsl : s.1.length ≤ 1000000) (hx : V.rdList V.next most s = (l, s')) (hk : l.length = k) (w : World) (h : InAt 75 w g s) :
    Calls Try.prog 34 #[.pointer (some ⟨g, 0, none⟩), .int .i64 most] w fun e w' =>
      ∃ A c, e = .returned (.slice A k c) ∧ k ≤ c ∧ w'.ownsRow w.heap.size 5 1 (.slice A k c) k (bv l) ∧ InAt 75 w' g s' ∧ w.grownBy w' (some g) := by
  subst hk
  have := inBytes_any g most hm1 hm2 s hsl w h
  rw [hx] at this
  refine this.mono ?_
  rintro e w' ⟨v, rfl, hown, hin, hg⟩
  obtain ⟨A, c, rfl, hc, _, h2⟩ := own_reads hown
  exact ⟨A, c, rfl, hc, h2, hin, hg⟩
theorem inInts_val (l : List Int) (k : Nat) (s' : V.St) (g : Nat) (most : Int) (hm1 : -9223372036854775808 ≤ most) (hm2 : most ≤ 9223372036854775807) (s : V.St) (hsl : s.1.length ≤ 1000000) (hx : V.rdList V.rdInt most s = (l, s')) (hk : l.length = k) (w : World) (h : InAt 75 w g s) :
    Calls Try.prog 36 #[.pointer (some ⟨g, 0, none⟩), .int .i64 most] w fun e w' =>
      ∃ A c, e = .returned (.slice A k c) ∧ k ≤ c ∧ w'.ownsRow w.heap.size 3 1 (.slice A k c) k (iv l) ∧ InAt 75 w' g s' ∧ w.grownBy w' (some g) := by
  subst hk
  have := inInts_any g most hm1 hm2 s hsl w h
  rw [hx] at this
  refine this.mono ?_
  rintro e w' ⟨v, rfl, hown, hin, hg⟩
  obtain ⟨A, c, rfl, hc, _, h2⟩ := own_reads hown
  exact ⟨A, c, rfl, hc, h2, hin, hg⟩
theorem inEnd_val (x : Int) (g : Nat) (s : V.St) (hx : V.fin s = x) (w : World) (h : InAt 75 w g s) :
    Calls Try.prog 25 #[.pointer (some ⟨g, 0, none⟩)] w fun e w' => e = .returned (.int .i64 x) ∧ w = w' := by
  subst hx; exact inEnd_any g s w h
/-- What only turned a new block is below. -/
theorem only_new {a b c : World} {g B : Nat} (h : Below B a b) (k : b.grownBy c (some g)) (hB : B ≤ b.heap.size) (hg : B ≤ g) : Below B a c :=
  h.trans ⟨k.os, k.tape, k.output, k.size, fun i hi => k.block i (by omega) (by intro e; injection e with e; omega)⟩

/-- A block just laid and marked, read from its head. -/
theorem Reads.newM (w : World) (cs : List Value) (t : TypeId) (n : Nat) (fr : Nat × Nat) (hn : cs.length = n) : Reads (w.alloc (.cells cs.toArray t fr)) (w.alloc (.cells cs.toArray t fr)).heap.size 1 (some ⟨w.heap.size, 0, none⟩) n cs := by
  refine ⟨by omega, fun _ => ⟨_, rfl, by simp, fun j u hu => ?_⟩⟩
  have e1 : (⟨w.heap.size, 0, none⟩ : Addr).add j = ⟨w.heap.size, j, none⟩ := by
    unfold Addr.add
    split <;> simp_all
  rw [e1, World.cell?_alloc_mark w cs.toArray t fr j]
  simpa using hu
set_option maxHeartbeats 1000000 in
theorem lives_any (w : World) : Calls Try.prog 16 #[] w fun e W' => e = .returned (.bool true) ∧ Below w.heap.size w W' := by
  have e1 := Lib.hid (show ([] : List UInt8) ++ V.enc (UInt64.ofNat 300) = [172, 2] from by decide)
  have e2 := Lib.hid (show ([172, 2] : List UInt8) ++ V.enc (V.zz (-1)) = [172, 2, 1] from by decide)
  have e3 := Lib.hid (show ([172, 2, 1] : List UInt8) ++ V.enc (UInt64.ofNat 2) ++ [97, 98] = [172, 2, 1, 2, 97, 98] from by decide)
  have r1 := Lib.hid (show V.rdUint ([172, 2, 1, 2, 97, 98], 0) = (UInt64.ofNat 300, ([1, 2, 97, 98], 0)) from by decide)
  have r2 := Lib.hid (show V.rdInt ([1, 2, 97, 98], 0) = (-1, ([2, 97, 98], 0)) from by decide)
  have r3 := Lib.hid (show V.rdList V.next 2 ([2, 97, 98], 0) = ([97, 98], ([], 0)) from by decide)
  have r4 := Lib.hid (show V.fin ([], 0) = 0 from by decide)
  go_enter Try.func16, Try.ntmps16
  go_wp2_with fail
  have ho0 := OutAt.new w
  have hb0 : Below w.heap.size w (w.alloc (.cells #[.slice none 0 0] 26)) := (Below.refl _ _).alloc (Nat.le_refl _) _
  refine (outUint_lit w.heap.size w.heap.size [] _ _ 300 rfl (by omega) (by simp) e1.out _ ho0).mono ?_
  rintro e w1 ⟨rfl, ho1, ht1⟩
  have hb1 := hb0.trans (ht1.below ho0)
  clear hb0 ho0 ht1
  go_wp2_with fail
  refine (outInt_val w.heap.size w.heap.size _ _ (-1) (by omega) (by omega) (by simp) e2.out _ ho1).mono ?_
  rintro e w2 ⟨rfl, ho2, ht2⟩
  have hb2 := hb1.trans (ht2.below ho1)
  clear hb1 ho1 ht2
  have hcv := Lib.run_convert_bytes_const (P := Try.prog) w2 24 5 #[.int .u8 97, .int .u8 98] 2 2 Try.underlying24 Try.underlying5
  go_wp2_with fail
  have hr3 := Reads.newM w2 [.int .u8 97, .int .u8 98] 5 2 (2, 3) rfl
  have hb3 := hb2.alloc hb2.size (.cells [.int .u8 97, .int .u8 98].toArray 5 (2, 3))
  have ho3 := ho2.later ((Below.refl _ _).alloc (Nat.le_refl _) (.cells [.int .u8 97, .int .u8 98].toArray 5 (2, 3)))
  have hfar : ∀ ad, some (⟨w2.heap.size, 0, none⟩ : Addr) = some ad → ad.block ≠ w.heap.size ∧ ¬ Owned (w2.alloc (.cells [.int .u8 97, .int .u8 98].toArray 5 (2, 3))) w.heap.size ad.block := by
    rintro ad h
    obtain rfl : (⟨w2.heap.size, 0, none⟩ : Addr) = ad := by injection h
    refine ⟨?_, ?_⟩
    · have := ho2.lt; show w2.heap.size ≠ _; omega
    · rintro ⟨v, h1, h2⟩
      obtain ⟨_, _, v', h3, h4⟩ := id ho2
      have h3' := box_below h3 ((Below.refl _ _).alloc (Nat.le_refl _) (.cells [.int .u8 97, .int .u8 98].toArray 5 (2, 3)))
      obtain rfl := Boxed.uniq h1 h3'
      have := (ho2.owned ⟨v, h3, h2⟩).2
      exact absurd this (Nat.lt_irrefl _)
  refine (outBytes_any w.heap.size w.heap.size _ _ 2 2 [97, 98] rfl (by simp) _ ho3 hr3 hfar (by rintro ad h; injection h with h; subst h; simp)).mono ?_
  rintro e w3 ⟨rfl, ho4, ht4⟩
  rw [e3.out] at ho4
  have hb4 := hb3.trans (ht4.below ho3)
  clear hb2 hb3 ho2 ho3 ht4 hr3 hfar hcv
  go_wp2_with fail
  refine (done_reads _ _ 6 _ rfl (by omega) _ ho4).mono ?_
  rintro e w4 ⟨A, c, rfl, hc, hown4, hd⟩
  have hb5 := blater hb4 (Nat.le_refl _) hd
  have hr4 := Reads.of_own hown4
  clear hb4 hd ho4
  go_wp2_with fail
  refine (newIn_any A 6 c _ rfl (by omega) _ hr4).mono ?_
  rintro e w5 ⟨g, rfl, hg, hin, hd⟩
  have hb6 := blater hb5 (Nat.le_refl _) hd
  have hr5 := hr4.below hd
  have hgw : w4.heap.size ≤ g := hg
  have hlt5 := hin.lt
  have hle5 := hb6.size
  have hle4 := hb5.size
  clear hb5 hd hr4
  go_wp2_with fail
  refine (inUint_val 300 _ g _ r1.out (by omega) _ hin).mono ?_
  rintro e w6 ⟨rfl, hin6, hg6⟩
  have hb7 := only_new hb6 hg6 hle5 (by omega)
  have hr6 := hr5.below (only_below hg6 (by omega) |>.mono hgw)
  clear hin hb6 hr5
  go_wp2_with fail
  refine (inInt_val (-1) _ g _ r2.out _ hin6).mono ?_
  rintro e w7 ⟨rfl, hin7, hg7⟩
  have hb8 := only_new hb7 hg7 hb7.size (by omega)
  have hr7 := hr6.below (only_below hg7 (by have := hg6.size; omega) |>.mono hgw)
  clear hin6 hb7 hr6
  go_wp2_with fail
  refine (inBytes_val [97, 98] 2 _ g 2 (by omega) (by omega) _ (by simp) r3.out rfl _ hin7).mono ?_
  rintro e w8 ⟨A8, c8, rfl, hc8, hown8, hin8, hg8⟩
  have hb9 := only_new hb8 hg8 hb8.size (by omega)
  have hr8 := hr7.below (only_below hg8 (by have := hg6.size; have := hg7.size; omega) |>.mono hgw)
  clear hin7 hb8 hr7
  have hr9 : Reads w8 w8.heap.size 1 A 6 (bv [172, 2, 1, 2, 97, 98]) := hr8.more (by have := hg6.size; have := hg7.size; have := hg8.size; omega)
  clear hr8
  go_wp2_with fail
  refine (sameBytes_b true A _ 6 c 6 6 [172, 2, 1, 2, 97, 98] [172, 2, 1, 2, 97, 98] rfl rfl (by simp) (by omega) (by omega) _ ((hr9.alloc (Nat.le_refl _) _).more (by simp)) (Reads.new w8 _ _ 6 rfl)).mono ?_
  rintro e w9 ⟨rfl, hb10⟩
  have hb11 := below_new _ (Nat.le_refl _) hb10
  have hin9 := hin8.below hb11
  have hr10 := (Reads.of_own hown8).below hb11
  obtain ⟨g8, rfl, _, _⟩ := own_head hown8
  have hcs : (convert 24 9 (.slice (some ⟨g8, 0, none⟩) 2 c8)).run Try.prog w9 = .ok (.string ⟨#[97, 98]⟩) w9 :=
    run_convert_bytes_back w9 _ _ 5 ⟨g8, 0, none⟩ c8 [97, 98] Try.underlying24 Try.underlying5 Try.underlying9 (fun j hj => by
      obtain ⟨ad, h1, _, h2⟩ := hr10.2 (by omega)
      obtain rfl : (⟨g8, 0, none⟩ : Addr) = ad := by injection h1
      exact h2 j _ (bv_getElem _ j _ (List.getElem?_eq_getElem hj)))
  have hb12 := blater hb9 (Nat.le_refl _) hb11
  clear hb9 hb10 hb11 hr9 hr10 hin8 hown8 hg8 hg7 hg6
  go_wp2_with fail
  refine (inEnd_val 0 g _ r4.out _ hin9).mono ?_
  rintro e w10 ⟨rfl, rfl⟩
  go_wp2_with fail
  go_ret
  exact ⟨rfl, hb12⟩
end Go.Proofs.Ytkjlafklhdojmaa
