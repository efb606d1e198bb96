/- read once more, with the block bounds of what it made. -/
import Derived.Test.YtkjlafklhdojmaaWireVal
namespace Go.Proofs.Ytkjlafklhdojmaa
open Go.RowKit
set_option linter.unusedVariables false

/-- The model's value v reads as x; what it leads to lies from block b on. -/
def IsValB (W : World) (b : Nat) (v : Value) (x : Vl) : Prop :=
  ∃ A c A' c', v = .agg #[.int .i64 x.kind, .int .u64 (x.u.toNat : Int), .int .i64 x.n, .slice A x.b.length c, .slice A' x.l.length c'] ∧
    Reads W W.heap.size 1 A x.b.length (bv x.b) ∧ Reads W W.heap.size 1 A' x.l.length (iv x.l) ∧ (∀ ad, A = some ad → b ≤ ad.block ∧ ad.block < W.heap.size) ∧ (∀ ad, A' = some ad → b ≤ ad.block ∧ ad.block < W.heap.size)
set_option maxHeartbeats 2000000 in
theorem read_row (g : Nat) (kind most : Int) (hm1 : -9223372036854775808 ≤ most) (hm2 : most ≤ 9223372036854775807) (s : V.St) (hsl : s.1.length ≤ 1000000) (w : World) (h : InAt 75 w g s) :
    Calls Try.prog 22 #[.pointer (some ⟨g, 0, none⟩), .int .i64 kind, .int .i64 most] w fun e w' =>
      ∃ v, e = .returned v ∧ IsValB w' w.heap.size v (V.read kind most s).1 ∧ InAt 75 w' g (V.read kind most s).2 ∧ w.grownBy w' (some g) := by
  have hglt := h.lt
  have hin0 := (h.below ((Below.refl _ _).alloc (Nat.le_refl _) (.cells #[.int .i64 0, .int .u64 0, .int .i64 0, .slice none 0 0, .slice none 0 0] 46))).below ((Below.refl _ _).alloc (Nat.le_refl _) (.cells #[.int .i64 kind, .int .u64 0, .int .i64 0, .slice none 0 0, .slice none 0 0] 46))
  have hg0 : w.grownBy ((w.alloc (.cells #[.int .i64 0, .int .u64 0, .int .i64 0, .slice none 0 0, .slice none 0 0] 46)).alloc (.cells #[.int .i64 kind, .int .u64 0, .int .i64 0, .slice none 0 0, .slice none 0 0] 46)) (some g) := only_alloc (only_alloc (only_refl _ _) _) _
  have hsz : ((w.alloc (.cells #[.int .i64 0, .int .u64 0, .int .i64 0, .slice none 0 0, .slice none 0 0] 46)).alloc (.cells #[.int .i64 kind, .int .u64 0, .int .i64 0, .slice none 0 0, .slice none 0 0] 46)).heap.size = w.heap.size + 2 := by simp
  have HZ := Lib.hid hsz
  clear hsz
  unfold V.read
  by_cases h0 : kind = 0
  · subst h0
    rw [if_pos rfl]
    go_enter Try.func22, Try.ntmps22
    go_wp2_with fail
    refine (inUint_any g s _ hin0).mono ?_
    rintro e w1 ⟨rfl, hin, hg⟩
    have hfA := ((Five.new w 46 (.int .i64 0) (.int .u64 0) (.int .i64 0) (.slice none 0 0) (.slice none 0 0)).below ((Below.refl _ _).alloc (Nat.le_refl _) (.cells #[.int .i64 0, .int .u64 0, .int .i64 0, .slice none 0 0, .slice none 0 0] 46))).kept hg (by intro e; injection e with e; omega)
    have hfB := (Five.new (w.alloc (.cells #[.int .i64 0, .int .u64 0, .int .i64 0, .slice none 0 0, .slice none 0 0] 46)) 46 (.int .i64 0) (.int .u64 0) (.int .i64 0) (.slice none 0 0) (.slice none 0 0)).kept hg (by simp; omega)
    rw [show (w.alloc (.cells #[.int .i64 0, .int .u64 0, .int .i64 0, .slice none 0 0, .slice none 0 0] 46)).heap.size = w.heap.size + 1 from by simp] at hfB
    have hs1 : w.heap.size + 2 ≤ w1.heap.size := by rw [← HZ.out]; exact hg.size
    have a0 := hfA.cell0
    have af0 := hfA.frozen 0
    have b0 := hfB.cell0
    have bf0 := hfB.frozen 0
    have a1 := hfA.cell1
    have af1 := hfA.frozen 1
    have b1 := hfB.cell1
    have bf1 := hfB.frozen 1
    have a2 := hfA.cell2
    have af2 := hfA.frozen 2
    have b2 := hfB.cell2
    have bf2 := hfB.frozen 2
    have a3 := hfA.cell3
    have af3 := hfA.frozen 3
    have b3 := hfB.cell3
    have bf3 := hfB.frozen 3
    have a4 := hfA.cell4
    have af4 := hfA.frozen 4
    have b4 := hfB.cell4
    have bf4 := hfB.frozen 4
    go_wp2_with fail
    have hk := set1_grown w1 ⟨w.heap.size + 1, 1, none⟩ (.int .u64 ((V.rdUint s).1.toNat : Int))
    have hfA2 := hfA.other hk (by show w.heap.size ≠ w.heap.size + 1; omega)
    have hfin := set5_five hfA2 (.int .i64 0) (.int .u64 ((V.rdUint s).1.toNat : Int)) (.int .i64 0) (.slice none 0 0) (.slice none 0 0)
    have hk2 := set5_grown (w1.setCell ⟨w.heap.size + 1, 1, none⟩ (.int .u64 ((V.rdUint s).1.toNat : Int))) w.heap.size (.int .i64 0) (.int .u64 ((V.rdUint s).1.toNat : Int)) (.int .i64 0) (.slice none 0 0) (.slice none 0 0)
    refine bodyPost_ret (results_cell_row rfl _ _ w.heap.size 46 _ (0, 0) _ rfl hfin Try.underlying46 rfl (by kernel_rfl)) rfl ?_
    refine ⟨_, rfl, ?_, (hin.kept hk (by intro k e; injection e with e; subst e; show g < w.heap.size + 1; omega)).kept hk2 (by intro k e; injection e with e; omega), only_row (only_row (only_trans hg0 hg) hk (by intro k e; injection e with e; subst e; show w.heap.size ≤ w.heap.size + 1; omega)) hk2 (by intro k e; injection e with e; omega)⟩
    exact ⟨none, 0, none, 0, rfl, Reads.none_, Reads.none_, (fun ad e => by cases e), (fun ad e => by cases e)⟩
  · skip
    by_cases h1 : kind = 1
    · subst h1
      rw [if_neg (by decide), if_pos rfl]
      go_enter Try.func22, Try.ntmps22
      go_wp2_with fail
      refine (inInt_any g s _ hin0).mono ?_
      rintro e w1 ⟨rfl, hin, hg⟩
      have hfA := ((Five.new w 46 (.int .i64 0) (.int .u64 0) (.int .i64 0) (.slice none 0 0) (.slice none 0 0)).below ((Below.refl _ _).alloc (Nat.le_refl _) (.cells #[.int .i64 1, .int .u64 0, .int .i64 0, .slice none 0 0, .slice none 0 0] 46))).kept hg (by intro e; injection e with e; omega)
      have hfB := (Five.new (w.alloc (.cells #[.int .i64 0, .int .u64 0, .int .i64 0, .slice none 0 0, .slice none 0 0] 46)) 46 (.int .i64 1) (.int .u64 0) (.int .i64 0) (.slice none 0 0) (.slice none 0 0)).kept hg (by simp; omega)
      rw [show (w.alloc (.cells #[.int .i64 0, .int .u64 0, .int .i64 0, .slice none 0 0, .slice none 0 0] 46)).heap.size = w.heap.size + 1 from by simp] at hfB
      have hs1 : w.heap.size + 2 ≤ w1.heap.size := by rw [← HZ.out]; exact hg.size
      have a0 := hfA.cell0
      have af0 := hfA.frozen 0
      have b0 := hfB.cell0
      have bf0 := hfB.frozen 0
      have a1 := hfA.cell1
      have af1 := hfA.frozen 1
      have b1 := hfB.cell1
      have bf1 := hfB.frozen 1
      have a2 := hfA.cell2
      have af2 := hfA.frozen 2
      have b2 := hfB.cell2
      have bf2 := hfB.frozen 2
      have a3 := hfA.cell3
      have af3 := hfA.frozen 3
      have b3 := hfB.cell3
      have bf3 := hfB.frozen 3
      have a4 := hfA.cell4
      have af4 := hfA.frozen 4
      have b4 := hfB.cell4
      have bf4 := hfB.frozen 4
      go_wp2_with fail
      have hk := set1_grown w1 ⟨w.heap.size + 1, 2, none⟩ (.int .i64 (V.rdInt s).1)
      have hfA2 := hfA.other hk (by show w.heap.size ≠ w.heap.size + 1; omega)
      have hfin := set5_five hfA2 (.int .i64 1) (.int .u64 0) (.int .i64 (V.rdInt s).1) (.slice none 0 0) (.slice none 0 0)
      have hk2 := set5_grown (w1.setCell ⟨w.heap.size + 1, 2, none⟩ (.int .i64 (V.rdInt s).1)) w.heap.size (.int .i64 1) (.int .u64 0) (.int .i64 (V.rdInt s).1) (.slice none 0 0) (.slice none 0 0)
      refine bodyPost_ret (results_cell_row rfl _ _ w.heap.size 46 _ (0, 0) _ rfl hfin Try.underlying46 rfl (by kernel_rfl)) rfl ?_
      refine ⟨_, rfl, ?_, (hin.kept hk (by intro k e; injection e with e; subst e; show g < w.heap.size + 1; omega)).kept hk2 (by intro k e; injection e with e; omega), only_row (only_row (only_trans hg0 hg) hk (by intro k e; injection e with e; subst e; show w.heap.size ≤ w.heap.size + 1; omega)) hk2 (by intro k e; injection e with e; omega)⟩
      exact ⟨none, 0, none, 0, rfl, Reads.none_, Reads.none_, (fun ad e => by cases e), (fun ad e => by cases e)⟩
    · skip
      by_cases h2 : kind = 2
      · subst h2
        rw [if_neg (by decide), if_neg (by decide), if_pos rfl]
        have hcall := inBytes_any g most hm1 hm2 s hsl _ hin0
        obtain ⟨⟨l, s'⟩, hR⟩ : ∃ R, V.rdList V.next most s = R := ⟨_, rfl⟩
        rw [hR] at hcall ⊢
        clear hR
        obtain ⟨k, hkk⟩ : ∃ k, l.length = k := ⟨_, rfl⟩
        simp only [hkk] at hcall
        have HK := Lib.hid hkk
        clear hkk
        go_enter Try.func22, Try.ntmps22
        go_wp2_with fail
        refine hcall.mono ?_
        rintro e w1 ⟨v, rfl, hown, hin, hg⟩
        clear hcall
        rw [HZ.out] at hown
        obtain ⟨A, c, rfl, hc, _, _⟩ := own_reads hown
        have hfA := ((Five.new w 46 (.int .i64 0) (.int .u64 0) (.int .i64 0) (.slice none 0 0) (.slice none 0 0)).below ((Below.refl _ _).alloc (Nat.le_refl _) (.cells #[.int .i64 2, .int .u64 0, .int .i64 0, .slice none 0 0, .slice none 0 0] 46))).kept hg (by intro e; injection e with e; omega)
        have hfB := (Five.new (w.alloc (.cells #[.int .i64 0, .int .u64 0, .int .i64 0, .slice none 0 0, .slice none 0 0] 46)) 46 (.int .i64 2) (.int .u64 0) (.int .i64 0) (.slice none 0 0) (.slice none 0 0)).kept hg (by simp; omega)
        rw [show (w.alloc (.cells #[.int .i64 0, .int .u64 0, .int .i64 0, .slice none 0 0, .slice none 0 0] 46)).heap.size = w.heap.size + 1 from by simp] at hfB
        have hs1 : w.heap.size + 2 ≤ w1.heap.size := by rw [← HZ.out]; exact hg.size
        have a0 := hfA.cell0
        have af0 := hfA.frozen 0
        have b0 := hfB.cell0
        have bf0 := hfB.frozen 0
        have a1 := hfA.cell1
        have af1 := hfA.frozen 1
        have b1 := hfB.cell1
        have bf1 := hfB.frozen 1
        have a2 := hfA.cell2
        have af2 := hfA.frozen 2
        have b2 := hfB.cell2
        have bf2 := hfB.frozen 2
        have a3 := hfA.cell3
        have af3 := hfA.frozen 3
        have b3 := hfB.cell3
        have bf3 := hfB.frozen 3
        have a4 := hfA.cell4
        have af4 := hfA.frozen 4
        have b4 := hfB.cell4
        have bf4 := hfB.frozen 4
        go_wp2_with fail
        have hk := set1_grown w1 ⟨w.heap.size + 1, 3, none⟩ (.slice A k c)
        have hfA2 := hfA.other hk (by show w.heap.size ≠ w.heap.size + 1; omega)
        have hfin := set5_five hfA2 (.int .i64 2) (.int .u64 0) (.int .i64 0) (.slice A k c) (.slice none 0 0)
        have hk2 := set5_grown (w1.setCell ⟨w.heap.size + 1, 3, none⟩ (.slice A k c)) w.heap.size (.int .i64 2) (.int .u64 0) (.int .i64 0) (.slice A k c) (.slice none 0 0)
        refine bodyPost_ret (results_cell_row rfl _ _ w.heap.size 46 _ (0, 0) _ rfl hfin Try.underlying46 rfl (by kernel_rfl)) rfl ?_
        refine ⟨_, rfl, ?_, (hin.kept hk (by intro k e; injection e with e; subst e; show g < w.heap.size + 1; omega)).kept hk2 (by intro k e; injection e with e; omega), only_row (only_row (only_trans hg0 hg) hk (by intro k e; injection e with e; subst e; show w.heap.size ≤ w.heap.size + 1; omega)) hk2 (by intro k e; injection e with e; omega)⟩
        have hw9 := (own_only (own_only hown hk (by show w.heap.size + 1 < w.heap.size + 2; omega)) hk2 (by omega))
        have hr := Reads.of_own hw9
        have hfb := own_from hw9
        exact ⟨A, c, none, 0, by rw [HK.out]; rfl, by rw [HK.out]; exact hr, Reads.none_, (fun ad e => by subst e; have := hfb ad.block rfl; exact ⟨by omega, this.2⟩), (fun ad e => by cases e)⟩
      · rw [if_neg h0, if_neg h1, if_neg h2]
        have hcall := inInts_any g most hm1 hm2 s hsl _ hin0
        obtain ⟨⟨l, s'⟩, hR⟩ : ∃ R, V.rdList V.rdInt most s = R := ⟨_, rfl⟩
        rw [hR] at hcall ⊢
        clear hR
        obtain ⟨k, hkk⟩ : ∃ k, l.length = k := ⟨_, rfl⟩
        simp only [hkk] at hcall
        have HK := Lib.hid hkk
        clear hkk
        go_enter Try.func22, Try.ntmps22
        go_wp2_with fail
        refine hcall.mono ?_
        rintro e w1 ⟨v, rfl, hown, hin, hg⟩
        clear hcall
        rw [HZ.out] at hown
        obtain ⟨A, c, rfl, hc, _, _⟩ := own_reads hown
        have hfA := ((Five.new w 46 (.int .i64 0) (.int .u64 0) (.int .i64 0) (.slice none 0 0) (.slice none 0 0)).below ((Below.refl _ _).alloc (Nat.le_refl _) (.cells #[.int .i64 kind, .int .u64 0, .int .i64 0, .slice none 0 0, .slice none 0 0] 46))).kept hg (by intro e; injection e with e; omega)
        have hfB := (Five.new (w.alloc (.cells #[.int .i64 0, .int .u64 0, .int .i64 0, .slice none 0 0, .slice none 0 0] 46)) 46 (.int .i64 kind) (.int .u64 0) (.int .i64 0) (.slice none 0 0) (.slice none 0 0)).kept hg (by simp; omega)
        rw [show (w.alloc (.cells #[.int .i64 0, .int .u64 0, .int .i64 0, .slice none 0 0, .slice none 0 0] 46)).heap.size = w.heap.size + 1 from by simp] at hfB
        have hs1 : w.heap.size + 2 ≤ w1.heap.size := by rw [← HZ.out]; exact hg.size
        have a0 := hfA.cell0
        have af0 := hfA.frozen 0
        have b0 := hfB.cell0
        have bf0 := hfB.frozen 0
        have a1 := hfA.cell1
        have af1 := hfA.frozen 1
        have b1 := hfB.cell1
        have bf1 := hfB.frozen 1
        have a2 := hfA.cell2
        have af2 := hfA.frozen 2
        have b2 := hfB.cell2
        have bf2 := hfB.frozen 2
        have a3 := hfA.cell3
        have af3 := hfA.frozen 3
        have b3 := hfB.cell3
        have bf3 := hfB.frozen 3
        have a4 := hfA.cell4
        have af4 := hfA.frozen 4
        have b4 := hfB.cell4
        have bf4 := hfB.frozen 4
        go_wp2_with fail
        have hk := set1_grown w1 ⟨w.heap.size + 1, 4, none⟩ (.slice A k c)
        have hfA2 := hfA.other hk (by show w.heap.size ≠ w.heap.size + 1; omega)
        have hfin := set5_five hfA2 (.int .i64 kind) (.int .u64 0) (.int .i64 0) (.slice none 0 0) (.slice A k c)
        have hk2 := set5_grown (w1.setCell ⟨w.heap.size + 1, 4, none⟩ (.slice A k c)) w.heap.size (.int .i64 kind) (.int .u64 0) (.int .i64 0) (.slice none 0 0) (.slice A k c)
        refine bodyPost_ret (results_cell_row rfl _ _ w.heap.size 46 _ (0, 0) _ rfl hfin Try.underlying46 rfl (by kernel_rfl)) rfl ?_
        refine ⟨_, rfl, ?_, (hin.kept hk (by intro k e; injection e with e; subst e; show g < w.heap.size + 1; omega)).kept hk2 (by intro k e; injection e with e; omega), only_row (only_row (only_trans hg0 hg) hk (by intro k e; injection e with e; subst e; show w.heap.size ≤ w.heap.size + 1; omega)) hk2 (by intro k e; injection e with e; omega)⟩
        have hw9 := (own_only (own_only hown hk (by show w.heap.size + 1 < w.heap.size + 2; omega)) hk2 (by omega))
        have hr := Reads.of_own hw9
        have hfb := own_from hw9
        exact ⟨none, 0, A, c, by rw [HK.out]; rfl, Reads.none_, (by rw [HK.out]; exact hr), (fun ad e => by cases e), (fun ad e => by subst e; have := hfb ad.block rfl; exact ⟨by omega, this.2⟩)⟩
end Go.Proofs.Ytkjlafklhdojmaa
