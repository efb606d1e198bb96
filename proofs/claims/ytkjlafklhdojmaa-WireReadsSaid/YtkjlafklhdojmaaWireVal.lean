/- Values of the four kinds; the law's read. -/
import Derived.Test.YtkjlafklhdojmaaWireLives
namespace Go.Proofs.Ytkjlafklhdojmaa
open Go.RowKit
set_option linter.unusedVariables false

/-- A value of one of the four kinds. -/
structure Vl where
  kind : Int
  u : UInt64
  n : Int
  b : List UInt8
  l : List Int
/-- What read answers. -/
def V.read (kind most : Int) (s : V.St) : Vl × V.St :=
  if kind = 0 then (⟨kind, (V.rdUint s).1, 0, [], []⟩, (V.rdUint s).2)
  else if kind = 1 then (⟨kind, 0, (V.rdInt s).1, [], []⟩, (V.rdInt s).2)
  else if kind = 2 then (⟨kind, 0, 0, (V.rdList V.next most s).1, []⟩, (V.rdList V.next most s).2)
  else (⟨kind, 0, 0, [], (V.rdList V.rdInt most s).1⟩, (V.rdList V.rdInt most s).2)
/-- The model's value v reads as x. -/
def IsVal (W : World) (B : Nat) (v : Value) (x : Vl) : Prop :=
  ∃ A c A' c', v = .agg #[.int .i64 x.kind, .int .u64 (x.u.toNat : Int), .int .i64 x.n, .slice A x.b.length c, .slice A' x.l.length c'] ∧
    Reads W B 1 A x.b.length (bv x.b) ∧ Reads W B 1 A' x.l.length (iv x.l)
/-- A block of five cells. -/
def Five (W : World) (g : Nat) (T : TypeId) (a b c d e : Value) : Prop := W.heap[g]? = some (.cells #[a, b, c, d, e] T (0, 0))
section
variable {W W' : World} {g : Nat} {T : TypeId} {a b c d e : Value}
theorem Five.lt (h : Five W g T a b c d e) : g < W.heap.size := (Array.getElem?_eq_some_iff.1 h).1
theorem Five.cell0 (h : Five W g T a b c d e) : W.cell? ⟨g, 0, none⟩ = some a := by simp [World.cell?, show W.heap[g]? = _ from h]
theorem Five.cell1 (h : Five W g T a b c d e) : W.cell? ⟨g, 1, none⟩ = some b := by simp [World.cell?, show W.heap[g]? = _ from h]
theorem Five.cell2 (h : Five W g T a b c d e) : W.cell? ⟨g, 2, none⟩ = some c := by simp [World.cell?, show W.heap[g]? = _ from h]
theorem Five.cell3 (h : Five W g T a b c d e) : W.cell? ⟨g, 3, none⟩ = some d := by simp [World.cell?, show W.heap[g]? = _ from h]
theorem Five.cell4 (h : Five W g T a b c d e) : W.cell? ⟨g, 4, none⟩ = some e := by simp [World.cell?, show W.heap[g]? = _ from h]
theorem Five.frozen (h : Five W g T a b c d e) (k : Nat) : W.frozen? ⟨g, k, none⟩ = false := by simp [World.frozen?, show W.heap[g]? = _ from h]
theorem Five.new (W : World) (T : TypeId) (a b c d e : Value) : Five (W.alloc (.cells #[a, b, c, d, e] T)) W.heap.size T a b c d e := World.alloc_heap_new W _
theorem Five.kept {row : Option Nat} (h : Five W g T a b c d e) (hg : W.grownBy W' row) (hne : some g ≠ row) : Five W' g T a b c d e := (hg.block g h.lt hne).trans h
theorem Five.below (h : Five W g T a b c d e) (hb : Below W.heap.size W W') : Five W' g T a b c d e := (hb.block g h.lt).trans h
end

theorem set5_five {W : World} {g : Nat} {T : TypeId} {a b c d e : Value} (h : Five W g T a b c d e) (a' b' c' d' e' : Value) :
    Five (((((W.setCell ⟨g, 0, none⟩ a').setCell ⟨g, 1, none⟩ b').setCell ⟨g, 2, none⟩ c').setCell ⟨g, 3, none⟩ d').setCell ⟨g, 4, none⟩ e') g T a' b' c' d' e' := by
  have h' : W.heap[g]? = _ := h
  unfold Five World.setCell
  simp [h', Array.getElem?_modify]
theorem set1_grown (W : World) (p : Addr) (v : Value) : W.grownBy (W.setCell p v) (some p.block) :=
  ⟨rfl, rfl, rfl, by simp [World.setCell], fun k _ hk => Below.heap_setCell _ _ _ k (fun e => hk (by rw [e]))⟩
theorem set5_grown (W : World) (g : Nat) (a' b' c' d' e' : Value) :
    W.grownBy (((((W.setCell ⟨g, 0, none⟩ a').setCell ⟨g, 1, none⟩ b').setCell ⟨g, 2, none⟩ c').setCell ⟨g, 3, none⟩ d').setCell ⟨g, 4, none⟩ e') (some g) :=
  only_trans (only_trans (only_trans (only_trans (set1_grown W ⟨g, 0, none⟩ _) (set1_grown _ ⟨g, 1, none⟩ _)) (set1_grown _ ⟨g, 2, none⟩ _)) (set1_grown _ ⟨g, 3, none⟩ _)) (set1_grown _ ⟨g, 4, none⟩ _)
theorem Five.other {W W' : World} {g h : Nat} {T : TypeId} {a b c d e : Value} (k : Five W g T a b c d e) (hg : W.grownBy W' (some h)) (hne : g ≠ h) : Five W' g T a b c d e := k.kept hg (by intro e; injection e with e; exact hne e)

set_option maxHeartbeats 2000000 in
theorem read_any (g : Nat) (kind most : Int) (hm1 : -9223372036854775808 ≤ most) (hm2 : most ≤ 9223372036854775807) (s : V.St) (hsl : s.1.length ≤ 1000000) (w : World) (h : InAt 75 w g s) :
    Calls Try.prog 22 #[.pointer (some ⟨g, 0, none⟩), .int .i64 kind, .int .i64 most] w fun e w' =>
      ∃ v, e = .returned v ∧ IsVal w' w'.heap.size v (V.read kind most s).1 ∧ InAt 75 w' g (V.read kind most s).2 ∧ w.grownBy w' (some g) := by
  have hglt := h.lt
  have hin0 := (h.below ((Below.refl _ _).alloc (Nat.le_refl _) (.cells #[.int .i64 0, .int .u64 0, .int .i64 0, .slice none 0 0, .slice none 0 0] 46))).below ((Below.refl _ _).alloc (Nat.le_refl _) (.cells #[.int .i64 kind, .int .u64 0, .int .i64 0, .slice none 0 0, .slice none 0 0] 46))
  have hg0 : w.grownBy ((w.alloc (.cells #[.int .i64 0, .int .u64 0, .int .i64 0, .slice none 0 0, .slice none 0 0] 46)).alloc (.cells #[.int .i64 kind, .int .u64 0, .int .i64 0, .slice none 0 0, .slice none 0 0] 46)) (some g) := only_alloc (only_alloc (only_refl _ _) _) _
  have hsz : ((w.alloc (.cells #[.int .i64 0, .int .u64 0, .int .i64 0, .slice none 0 0, .slice none 0 0] 46)).alloc (.cells #[.int .i64 kind, .int .u64 0, .int .i64 0, .slice none 0 0, .slice none 0 0] 46)).heap.size = w.heap.size + 2 := by simp
  have HZ := Lib.hid hsz
  clear hsz
  unfold V.read
  by_cases h0 : kind = 0
  · subst h0
    rw [if_pos rfl]
    go_enter Try.func22, Try.ntmps22
    go_wp2_with fail
    refine (inUint_any g s _ hin0).mono ?_
    rintro e w1 ⟨rfl, hin, hg⟩
    have hfA := ((Five.new w 46 (.int .i64 0) (.int .u64 0) (.int .i64 0) (.slice none 0 0) (.slice none 0 0)).below ((Below.refl _ _).alloc (Nat.le_refl _) (.cells #[.int .i64 0, .int .u64 0, .int .i64 0, .slice none 0 0, .slice none 0 0] 46))).kept hg (by intro e; injection e with e; omega)
    have hfB := (Five.new (w.alloc (.cells #[.int .i64 0, .int .u64 0, .int .i64 0, .slice none 0 0, .slice none 0 0] 46)) 46 (.int .i64 0) (.int .u64 0) (.int .i64 0) (.slice none 0 0) (.slice none 0 0)).kept hg (by simp; omega)
    rw [show (w.alloc (.cells #[.int .i64 0, .int .u64 0, .int .i64 0, .slice none 0 0, .slice none 0 0] 46)).heap.size = w.heap.size + 1 from by simp] at hfB
    have hs1 : w.heap.size + 2 ≤ w1.heap.size := by rw [← HZ.out]; exact hg.size
    have a0 := hfA.cell0
    have af0 := hfA.frozen 0
    have b0 := hfB.cell0
    have bf0 := hfB.frozen 0
    have a1 := hfA.cell1
    have af1 := hfA.frozen 1
    have b1 := hfB.cell1
    have bf1 := hfB.frozen 1
    have a2 := hfA.cell2
    have af2 := hfA.frozen 2
    have b2 := hfB.cell2
    have bf2 := hfB.frozen 2
    have a3 := hfA.cell3
    have af3 := hfA.frozen 3
    have b3 := hfB.cell3
    have bf3 := hfB.frozen 3
    have a4 := hfA.cell4
    have af4 := hfA.frozen 4
    have b4 := hfB.cell4
    have bf4 := hfB.frozen 4
    go_wp2_with fail
    have hk := set1_grown w1 ⟨w.heap.size + 1, 1, none⟩ (.int .u64 ((V.rdUint s).1.toNat : Int))
    have hfA2 := hfA.other hk (by show w.heap.size ≠ w.heap.size + 1; omega)
    have hfin := set5_five hfA2 (.int .i64 0) (.int .u64 ((V.rdUint s).1.toNat : Int)) (.int .i64 0) (.slice none 0 0) (.slice none 0 0)
    have hk2 := set5_grown (w1.setCell ⟨w.heap.size + 1, 1, none⟩ (.int .u64 ((V.rdUint s).1.toNat : Int))) w.heap.size (.int .i64 0) (.int .u64 ((V.rdUint s).1.toNat : Int)) (.int .i64 0) (.slice none 0 0) (.slice none 0 0)
    refine bodyPost_ret (results_cell_row rfl _ _ w.heap.size 46 _ (0, 0) _ rfl hfin Try.underlying46 rfl (by kernel_rfl)) rfl ?_
    refine ⟨_, rfl, ?_, (hin.kept hk (by intro k e; injection e with e; subst e; show g < w.heap.size + 1; omega)).kept hk2 (by intro k e; injection e with e; omega), only_row (only_row (only_trans hg0 hg) hk (by intro k e; injection e with e; subst e; show w.heap.size ≤ w.heap.size + 1; omega)) hk2 (by intro k e; injection e with e; omega)⟩
    exact ⟨none, 0, none, 0, rfl, Reads.none_, Reads.none_⟩
  · skip
    by_cases h1 : kind = 1
    · subst h1
      rw [if_neg (by decide), if_pos rfl]
      go_enter Try.func22, Try.ntmps22
      go_wp2_with fail
      refine (inInt_any g s _ hin0).mono ?_
      rintro e w1 ⟨rfl, hin, hg⟩
      have hfA := ((Five.new w 46 (.int .i64 0) (.int .u64 0) (.int .i64 0) (.slice none 0 0) (.slice none 0 0)).below ((Below.refl _ _).alloc (Nat.le_refl _) (.cells #[.int .i64 1, .int .u64 0, .int .i64 0, .slice none 0 0, .slice none 0 0] 46))).kept hg (by intro e; injection e with e; omega)
      have hfB := (Five.new (w.alloc (.cells #[.int .i64 0, .int .u64 0, .int .i64 0, .slice none 0 0, .slice none 0 0] 46)) 46 (.int .i64 1) (.int .u64 0) (.int .i64 0) (.slice none 0 0) (.slice none 0 0)).kept hg (by simp; omega)
      rw [show (w.alloc (.cells #[.int .i64 0, .int .u64 0, .int .i64 0, .slice none 0 0, .slice none 0 0] 46)).heap.size = w.heap.size + 1 from by simp] at hfB
      have hs1 : w.heap.size + 2 ≤ w1.heap.size := by rw [← HZ.out]; exact hg.size
      have a0 := hfA.cell0
      have af0 := hfA.frozen 0
      have b0 := hfB.cell0
      have bf0 := hfB.frozen 0
      have a1 := hfA.cell1
      have af1 := hfA.frozen 1
      have b1 := hfB.cell1
      have bf1 := hfB.frozen 1
      have a2 := hfA.cell2
      have af2 := hfA.frozen 2
      have b2 := hfB.cell2
      have bf2 := hfB.frozen 2
      have a3 := hfA.cell3
      have af3 := hfA.frozen 3
      have b3 := hfB.cell3
      have bf3 := hfB.frozen 3
      have a4 := hfA.cell4
      have af4 := hfA.frozen 4
      have b4 := hfB.cell4
      have bf4 := hfB.frozen 4
      go_wp2_with fail
      have hk := set1_grown w1 ⟨w.heap.size + 1, 2, none⟩ (.int .i64 (V.rdInt s).1)
      have hfA2 := hfA.other hk (by show w.heap.size ≠ w.heap.size + 1; omega)
      have hfin := set5_five hfA2 (.int .i64 1) (.int .u64 0) (.int .i64 (V.rdInt s).1) (.slice none 0 0) (.slice none 0 0)
      have hk2 := set5_grown (w1.setCell ⟨w.heap.size + 1, 2, none⟩ (.int .i64 (V.rdInt s).1)) w.heap.size (.int .i64 1) (.int .u64 0) (.int .i64 (V.rdInt s).1) (.slice none 0 0) (.slice none 0 0)
      refine bodyPost_ret (results_cell_row rfl _ _ w.heap.size 46 _ (0, 0) _ rfl hfin Try.underlying46 rfl (by kernel_rfl)) rfl ?_
      refine ⟨_, rfl, ?_, (hin.kept hk (by intro k e; injection e with e; subst e; show g < w.heap.size + 1; omega)).kept hk2 (by intro k e; injection e with e; omega), only_row (only_row (only_trans hg0 hg) hk (by intro k e; injection e with e; subst e; show w.heap.size ≤ w.heap.size + 1; omega)) hk2 (by intro k e; injection e with e; omega)⟩
      exact ⟨none, 0, none, 0, rfl, Reads.none_, Reads.none_⟩
    · skip
      by_cases h2 : kind = 2
      · subst h2
        rw [if_neg (by decide), if_neg (by decide), if_pos rfl]
        have hcall := inBytes_any g most hm1 hm2 s hsl _ hin0
        obtain ⟨⟨l, s'⟩, hR⟩ : ∃ R, V.rdList V.next most s = R := ⟨_, rfl⟩
        rw [hR] at hcall ⊢
        clear hR
        obtain ⟨k, hkk⟩ : ∃ k, l.length = k := ⟨_, rfl⟩
        simp only [hkk] at hcall
        have HK := Lib.hid hkk
        clear hkk
        go_enter Try.func22, Try.ntmps22
        go_wp2_with fail
        refine hcall.mono ?_
        rintro e w1 ⟨v, rfl, hown, hin, hg⟩
        clear hcall
        rw [HZ.out] at hown
        obtain ⟨A, c, rfl, hc, _, _⟩ := own_reads hown
        have hfA := ((Five.new w 46 (.int .i64 0) (.int .u64 0) (.int .i64 0) (.slice none 0 0) (.slice none 0 0)).below ((Below.refl _ _).alloc (Nat.le_refl _) (.cells #[.int .i64 2, .int .u64 0, .int .i64 0, .slice none 0 0, .slice none 0 0] 46))).kept hg (by intro e; injection e with e; omega)
        have hfB := (Five.new (w.alloc (.cells #[.int .i64 0, .int .u64 0, .int .i64 0, .slice none 0 0, .slice none 0 0] 46)) 46 (.int .i64 2) (.int .u64 0) (.int .i64 0) (.slice none 0 0) (.slice none 0 0)).kept hg (by simp; omega)
        rw [show (w.alloc (.cells #[.int .i64 0, .int .u64 0, .int .i64 0, .slice none 0 0, .slice none 0 0] 46)).heap.size = w.heap.size + 1 from by simp] at hfB
        have hs1 : w.heap.size + 2 ≤ w1.heap.size := by rw [← HZ.out]; exact hg.size
        have a0 := hfA.cell0
        have af0 := hfA.frozen 0
        have b0 := hfB.cell0
        have bf0 := hfB.frozen 0
        have a1 := hfA.cell1
        have af1 := hfA.frozen 1
        have b1 := hfB.cell1
        have bf1 := hfB.frozen 1
        have a2 := hfA.cell2
        have af2 := hfA.frozen 2
        have b2 := hfB.cell2
        have bf2 := hfB.frozen 2
        have a3 := hfA.cell3
        have af3 := hfA.frozen 3
        have b3 := hfB.cell3
        have bf3 := hfB.frozen 3
        have a4 := hfA.cell4
        have af4 := hfA.frozen 4
        have b4 := hfB.cell4
        have bf4 := hfB.frozen 4
        go_wp2_with fail
        have hk := set1_grown w1 ⟨w.heap.size + 1, 3, none⟩ (.slice A k c)
        have hfA2 := hfA.other hk (by show w.heap.size ≠ w.heap.size + 1; omega)
        have hfin := set5_five hfA2 (.int .i64 2) (.int .u64 0) (.int .i64 0) (.slice A k c) (.slice none 0 0)
        have hk2 := set5_grown (w1.setCell ⟨w.heap.size + 1, 3, none⟩ (.slice A k c)) w.heap.size (.int .i64 2) (.int .u64 0) (.int .i64 0) (.slice A k c) (.slice none 0 0)
        refine bodyPost_ret (results_cell_row rfl _ _ w.heap.size 46 _ (0, 0) _ rfl hfin Try.underlying46 rfl (by kernel_rfl)) rfl ?_
        refine ⟨_, rfl, ?_, (hin.kept hk (by intro k e; injection e with e; subst e; show g < w.heap.size + 1; omega)).kept hk2 (by intro k e; injection e with e; omega), only_row (only_row (only_trans hg0 hg) hk (by intro k e; injection e with e; subst e; show w.heap.size ≤ w.heap.size + 1; omega)) hk2 (by intro k e; injection e with e; omega)⟩
        have hr := Reads.of_own (own_only (own_only hown hk (by show w.heap.size + 1 < w.heap.size + 2; omega)) hk2 (by omega))
        exact ⟨A, c, none, 0, by rw [HK.out]; rfl, by rw [HK.out]; exact hr, Reads.none_⟩
      · rw [if_neg h0, if_neg h1, if_neg h2]
        have hcall := inInts_any g most hm1 hm2 s hsl _ hin0
        obtain ⟨⟨l, s'⟩, hR⟩ : ∃ R, V.rdList V.rdInt most s = R := ⟨_, rfl⟩
        rw [hR] at hcall ⊢
        clear hR
        obtain ⟨k, hkk⟩ : ∃ k, l.length = k := ⟨_, rfl⟩
        simp only [hkk] at hcall
        have HK := Lib.hid hkk
        clear hkk
        go_enter Try.func22, Try.ntmps22
        go_wp2_with fail
        refine hcall.mono ?_
        rintro e w1 ⟨v, rfl, hown, hin, hg⟩
        clear hcall
        rw [HZ.out] at hown
        obtain ⟨A, c, rfl, hc, _, _⟩ := own_reads hown
        have hfA := ((Five.new w 46 (.int .i64 0) (.int .u64 0) (.int .i64 0) (.slice none 0 0) (.slice none 0 0)).below ((Below.refl _ _).alloc (Nat.le_refl _) (.cells #[.int .i64 kind, .int .u64 0, .int .i64 0, .slice none 0 0, .slice none 0 0] 46))).kept hg (by intro e; injection e with e; omega)
        have hfB := (Five.new (w.alloc (.cells #[.int .i64 0, .int .u64 0, .int .i64 0, .slice none 0 0, .slice none 0 0] 46)) 46 (.int .i64 kind) (.int .u64 0) (.int .i64 0) (.slice none 0 0) (.slice none 0 0)).kept hg (by simp; omega)
        rw [show (w.alloc (.cells #[.int .i64 0, .int .u64 0, .int .i64 0, .slice none 0 0, .slice none 0 0] 46)).heap.size = w.heap.size + 1 from by simp] at hfB
        have hs1 : w.heap.size + 2 ≤ w1.heap.size := by rw [← HZ.out]; exact hg.size
        have a0 := hfA.cell0
        have af0 := hfA.frozen 0
        have b0 := hfB.cell0
        have bf0 := hfB.frozen 0
        have a1 := hfA.cell1
        have af1 := hfA.frozen 1
        have b1 := hfB.cell1
        have bf1 := hfB.frozen 1
        have a2 := hfA.cell2
        have af2 := hfA.frozen 2
        have b2 := hfB.cell2
        have bf2 := hfB.frozen 2
        have a3 := hfA.cell3
        have af3 := hfA.frozen 3
        have b3 := hfB.cell3
        have bf3 := hfB.frozen 3
        have a4 := hfA.cell4
        have af4 := hfA.frozen 4
        have b4 := hfB.cell4
        have bf4 := hfB.frozen 4
        go_wp2_with fail
        have hk := set1_grown w1 ⟨w.heap.size + 1, 4, none⟩ (.slice A k c)
        have hfA2 := hfA.other hk (by show w.heap.size ≠ w.heap.size + 1; omega)
        have hfin := set5_five hfA2 (.int .i64 kind) (.int .u64 0) (.int .i64 0) (.slice none 0 0) (.slice A k c)
        have hk2 := set5_grown (w1.setCell ⟨w.heap.size + 1, 4, none⟩ (.slice A k c)) w.heap.size (.int .i64 kind) (.int .u64 0) (.int .i64 0) (.slice none 0 0) (.slice A k c)
        refine bodyPost_ret (results_cell_row rfl _ _ w.heap.size 46 _ (0, 0) _ rfl hfin Try.underlying46 rfl (by kernel_rfl)) rfl ?_
        refine ⟨_, rfl, ?_, (hin.kept hk (by intro k e; injection e with e; subst e; show g < w.heap.size + 1; omega)).kept hk2 (by intro k e; injection e with e; omega), only_row (only_row (only_trans hg0 hg) hk (by intro k e; injection e with e; subst e; show w.heap.size ≤ w.heap.size + 1; omega)) hk2 (by intro k e; injection e with e; omega)⟩
        have hr := Reads.of_own (own_only (own_only hown hk (by show w.heap.size + 1 < w.heap.size + 2; omega)) hk2 (by omega))
        exact ⟨none, 0, A, c, by rw [HK.out]; rfl, Reads.none_, by rw [HK.out]; exact hr⟩
end Go.Proofs.Ytkjlafklhdojmaa
