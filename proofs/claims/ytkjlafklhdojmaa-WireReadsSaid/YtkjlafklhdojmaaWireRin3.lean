/- The reference's reader: Ints, Read. -/
import Derived.Test.YtkjlafklhdojmaaWireRin2
namespace Go.Proofs.Ytkjlafklhdojmaa
open Go.RowKit
set_option linter.unusedVariables false

set_option maxRecDepth 10000 in
set_option maxHeartbeats 2000000 in
theorem rInts_any (B g : Nat) (most : Int) (hm1 : -9223372036854775808 ≤ most) (hm2 : most ≤ 9223372036854775807) (s : V.St) (hsl : s.1.length ≤ 1000000) (w : World) (h : RIn w B g s) :
    Calls Try.prog 48 #[.pointer (some ⟨g, 0, none⟩), .int .i64 most] w fun e w' =>
      ∃ v, e = .returned v ∧ w'.ownsRow w.heap.size 3 1 v (V.rInts most s).1.length (iv (V.rInts most s).1) ∧ RIn w' B g (V.rInts most s).2 ∧ w.grownBy w' (some g) := by
  obtain ⟨i0, hi, hz0, hz1, hz2⟩ := info_parts infoInt
  have hglt := h.lt
  have hBg : B ≤ g := h.1
  have hun := rLen_any B g most hm1 hm2 s hsl w h
  have hL1 := V.rLim_le s most
  have hNm := V.rLen_le s most hm2
  have HRL : Hid (∃ R, V.rdN V.rInt (V.rLen s most) (V.rLim s most) = R ∧ V.rInts most s = if R.2.2 = 0 then R else ([], R.2)) := ⟨_, rfl, rfl⟩
  obtain ⟨RL, hRL⟩ : ∃ RL, V.rInts most s = RL := ⟨_, rfl⟩
  obtain ⟨L, hL⟩ : ∃ L, V.rLim s most = L := ⟨_, rfl⟩
  obtain ⟨nn, hnn⟩ : ∃ nn, V.rLen s most = nn := ⟨_, rfl⟩
  rw [hRL, hL, hnn] at HRL
  rw [hL, hnn] at hun
  rw [hL] at hL1
  rw [hnn] at hNm
  rw [hRL]
  clear hRL hL hnn
  go_enter Try.func48, Try.ntmps48
  go_wp2_with fail
  refine hun.mono ?_
  rintro e w2 ⟨rfl, hin2, hg2⟩
  clear hun h
  obtain ⟨R, hR, hRL⟩ := HRL.out
  have HRL := Lib.hid hRL
  have HR := Lib.hid hR
  clear hRL hR
  go_wp2_with fail
  go_loopw [6, 7] (fun v ix wr => ∃ (i : Nat) (l : List Int) (r' : V.St), ix = .int .i64 (i : Int) ∧ wr.ownsRow w.heap.size 3 1 v i (iv l) ∧ RIn wr B g r' ∧ w.grownBy wr (some g) ∧
      Hid (i ≤ nn ∧ i + r'.1.length ≤ L.1.length + (if r'.2 = 0 then 0 else 1) ∧ (l ++ (V.rdN V.rInt (nn - i) r').1, (V.rdN V.rInt (nn - i) r').2) = R))
    (fun _ ix _ => L.1.length + 2 - (intOf ix).toNat)
  case atStart =>
    refine ⟨0, [], L, rfl, World.ownsRow_nil _ _ _ _, hin2, hg2, ?_, ?_, ?_⟩
    · exact Nat.zero_le _
    · omega
    · rw [Nat.sub_zero, HR.out]; rfl
  case round =>
    obtain ⟨i, l, ⟨bs, e⟩, rfl, hown, hin3, hg3, hst⟩ := hrel
    obtain ⟨_, A, c, h1, h2, h3, h4⟩ := id hin3
    have hc1 := h1.cell1
    have hf1 := h1.frozen1
    clear h1 h2 h3 h4
    have hNN := hNm
    obtain ⟨hst1, hst2, hst3⟩ := hst.out
    by_cases hlt : i < nn
    · by_cases he : e = 0
      · subst he
        rw [if_pos rfl] at hst2
        have htk := V.rInt_takes (bs, 0) rfl
        have hrd := V.rdN_round V.rInt hlt rfl hst3
        have hnx := rInt_any B g (bs, 0) (by show bs.length ≤ 1000000; have h2 : i + bs.length ≤ L.1.length + 0 := hst2; omega) wr hin3
        obtain ⟨⟨x, r3⟩, hxr⟩ : ∃ xr, V.rInt (bs, 0) = xr := ⟨_, rfl⟩
        rw [hxr] at htk hrd hnx
        have HT := Lib.hid htk
        have HS := Lib.hid hst2
        have HQ := Lib.hid hrd
        clear htk hst2 hrd hst3 hxr hst
        go_wp2_with fail
        refine hnx.mono ?_
        rintro e w3 ⟨rfl, hin4, hg4⟩
        have hown3 := own_only hown hg4 hglt
        have hil : i ≤ 1000001 := by have := HS.out; have := hL1; omega
        have hsz : w.heap.size ≤ w3.heap.size := Nat.le_trans hg3.size hg4.size
        clear hnx hc1 hf1
        go_wp2_with (at_builtin; refine wpList_append_any _ rfl _ _ 32 rfl w.heap.size 3 i0 (.int .i64 0) 1 8 Try.underlying32 hi hz0 hz1 hz2 rfl (by decide) _ _ _ rfl (hown3.alloc _) _ _ 1 1 [.int .i64 x] rfl (Reads.new w3 [.int .i64 x] 3 1 rfl) (by simp [Value.oneCell']) (by unfold maxLen; omega) (by omega) (by simp; omega) ?_; intro v' w4 hown' hgrow hat)
        go_roundw
        case rel =>
          have hg5 := only_row (only_alloc (only_trans hg3 hg4) _) hgrow (fun k hk => (own_from hown3 k hk).1)
          refine ⟨i + 1, l ++ [x], r3, by go_num, by rw [← iv_snoc7]; exact hown', (hin4.below (Below.alloc (Below.refl _ _) (Nat.le_refl _) _)).kept hgrow (fun k hk => by have := (own_from hown3 k hk).1; constructor <;> omega), hg5, by omega, ?_, HQ.out⟩
          have h1 := HT.out
          have h2 := HS.out
          have h1 : r3.1.length + 1 ≤ bs.length ∨ (r3.2 ≠ 0 ∧ r3.1.length ≤ bs.length) := h1
          have h2 : i + bs.length ≤ L.1.length + 0 := h2
          rcases h1 with h1 | ⟨h1, h3⟩
          · split <;> omega
          · rw [if_neg h1]; omega
        case measure => have h2 : i + bs.length ≤ L.1.length + 0 := HS.out; simp [intOf]; omega
      · have hR : (l, (bs, e)) = R := by rw [← hst3, V.rdN_stop V.rInt _ he]; simp
        have HQ := Lib.hid hR
        clear hst2 hst3 hst hR
        go_wp2_with fail
        go_ret
        have hRL := HRL.out
        rw [← HQ.out, if_neg he] at hRL
        subst hRL
        exact ⟨_, rfl, World.ownsRow_nil _ _ _ _, hin3, hg3⟩
    · have hR : (l, (bs, e)) = R := by rw [← hst3, show nn - i = 0 from by omega]; simp [V.rdN]
      have HQ := Lib.hid hR
      have hil : i = l.length := by have := hown.1; simp [iv] at this; omega
      clear hst2 hst3 hst hR
      by_cases he : e = 0
      · subst he
        clear hil
        go_wp2_with fail
        go_ret
        have hil : i = l.length := by have := hown.1; simp [iv] at this; omega
        have hRL := HRL.out
        rw [← HQ.out, if_pos rfl] at hRL
        subst hRL hil
        exact ⟨_, rfl, hown, hin3, hg3⟩
      · clear hil
        go_wp2_with fail
        go_ret
        have hRL := HRL.out
        rw [← HQ.out, if_neg he] at hRL
        subst hRL
        exact ⟨_, rfl, World.ownsRow_nil _ _ _ _, hin3, hg3⟩

/-- The model's value v reads as x: its bytes below B, its list from block b on. -/
def IsValR (W : World) (B b : Nat) (v : Value) (x : Vl) : Prop :=
  ∃ A c A' c', v = .agg #[.int .i64 x.kind, .int .u64 (x.u.toNat : Int), .int .i64 x.n, .slice A x.b.length c, .slice A' x.l.length c'] ∧
    Reads W B 1 A x.b.length (bv x.b) ∧ Reads W W.heap.size 1 A' x.l.length (iv x.l) ∧ (∀ ad, A' = some ad → b ≤ ad.block)
set_option maxHeartbeats 2000000 in
theorem rRead_any (B g : Nat) (kind most : Int) (hm1 : -9223372036854775808 ≤ most) (hm2 : most ≤ 9223372036854775807) (s : V.St) (hsl : s.1.length ≤ 1000000) (w : World) (h : RIn w B g s) :
    Calls Try.prog 23 #[.pointer (some ⟨g, 0, none⟩), .int .i64 kind, .int .i64 most] w fun e w' =>
      ∃ v, e = .returned v ∧ IsValR w' B w.heap.size v (V.rRead kind most s).1 ∧ RIn w' B g (V.rRead kind most s).2 ∧ w.grownBy w' (some g) := by
  have hglt := h.lt
  have hBg : B ≤ g := h.1
  have hin0 := (h.below ((Below.refl _ _).alloc (Nat.le_refl _) (.cells #[.int .i64 0, .int .u64 0, .int .i64 0, .slice none 0 0, .slice none 0 0] 46))).below ((Below.refl _ _).alloc (Nat.le_refl _) (.cells #[.int .i64 kind, .int .u64 0, .int .i64 0, .slice none 0 0, .slice none 0 0] 46))
  have hg0 : w.grownBy ((w.alloc (.cells #[.int .i64 0, .int .u64 0, .int .i64 0, .slice none 0 0, .slice none 0 0] 46)).alloc (.cells #[.int .i64 kind, .int .u64 0, .int .i64 0, .slice none 0 0, .slice none 0 0] 46)) (some g) := only_alloc (only_alloc (only_refl _ _) _) _
  have hsz : ((w.alloc (.cells #[.int .i64 0, .int .u64 0, .int .i64 0, .slice none 0 0, .slice none 0 0] 46)).alloc (.cells #[.int .i64 kind, .int .u64 0, .int .i64 0, .slice none 0 0, .slice none 0 0] 46)).heap.size = w.heap.size + 2 := by simp
  have HZ := Lib.hid hsz
  clear hsz
  unfold V.rRead
  by_cases h0 : kind = 0
  · subst h0
    rw [if_pos rfl]
    go_enter Try.func23, Try.ntmps23
    go_wp2_with fail
    refine (rUint_any B g s hsl _ hin0).mono ?_
    rintro e w1 ⟨rfl, hin, hg⟩
    have hfA := ((Five.new w 46 (.int .i64 0) (.int .u64 0) (.int .i64 0) (.slice none 0 0) (.slice none 0 0)).below ((Below.refl _ _).alloc (Nat.le_refl _) (.cells #[.int .i64 0, .int .u64 0, .int .i64 0, .slice none 0 0, .slice none 0 0] 46))).kept hg (by intro e; injection e with e; omega)
    have hfB := (Five.new (w.alloc (.cells #[.int .i64 0, .int .u64 0, .int .i64 0, .slice none 0 0, .slice none 0 0] 46)) 46 (.int .i64 0) (.int .u64 0) (.int .i64 0) (.slice none 0 0) (.slice none 0 0)).kept hg (by simp; omega)
    rw [show (w.alloc (.cells #[.int .i64 0, .int .u64 0, .int .i64 0, .slice none 0 0, .slice none 0 0] 46)).heap.size = w.heap.size + 1 from by simp] at hfB
    have hs1 : w.heap.size + 2 ≤ w1.heap.size := by rw [← HZ.out]; exact hg.size
    have a0 := hfA.cell0
    have af0 := hfA.frozen 0
    have b0 := hfB.cell0
    have bf0 := hfB.frozen 0
    have a1 := hfA.cell1
    have af1 := hfA.frozen 1
    have b1 := hfB.cell1
    have bf1 := hfB.frozen 1
    have a2 := hfA.cell2
    have af2 := hfA.frozen 2
    have b2 := hfB.cell2
    have bf2 := hfB.frozen 2
    have a3 := hfA.cell3
    have af3 := hfA.frozen 3
    have b3 := hfB.cell3
    have bf3 := hfB.frozen 3
    have a4 := hfA.cell4
    have af4 := hfA.frozen 4
    have b4 := hfB.cell4
    have bf4 := hfB.frozen 4
    go_wp2_with fail
    have hk := set1_grown w1 ⟨w.heap.size + 1, 1, none⟩ (.int .u64 ((V.rUint s).1.toNat : Int))
    have hfA2 := hfA.other hk (by show w.heap.size ≠ w.heap.size + 1; omega)
    have hfin := set5_five hfA2 (.int .i64 0) (.int .u64 ((V.rUint s).1.toNat : Int)) (.int .i64 0) (.slice none 0 0) (.slice none 0 0)
    have hk2 := set5_grown (w1.setCell ⟨w.heap.size + 1, 1, none⟩ (.int .u64 ((V.rUint s).1.toNat : Int))) w.heap.size (.int .i64 0) (.int .u64 ((V.rUint s).1.toNat : Int)) (.int .i64 0) (.slice none 0 0) (.slice none 0 0)
    refine bodyPost_ret (results_cell_row rfl _ _ w.heap.size 46 _ (0, 0) _ rfl hfin Try.underlying46 rfl (by kernel_rfl)) rfl ?_
    refine ⟨_, rfl, ?_, (hin.kept hk (by intro k e; injection e with e; subst e; show B ≤ w.heap.size + 1 ∧ g ≠ w.heap.size + 1; omega)).kept hk2 (by intro k e; injection e with e; constructor <;> omega), only_row (only_row (only_trans hg0 hg) hk (by intro k e; injection e with e; subst e; show w.heap.size ≤ w.heap.size + 1; omega)) hk2 (by intro k e; injection e with e; omega)⟩
    exact ⟨none, 0, none, 0, rfl, Reads.none_, Reads.none_, (fun ad e => by cases e)⟩
  · skip
    by_cases h1 : kind = 1
    · subst h1
      rw [if_neg (by decide), if_pos rfl]
      go_enter Try.func23, Try.ntmps23
      go_wp2_with fail
      refine (rInt_any B g s hsl _ hin0).mono ?_
      rintro e w1 ⟨rfl, hin, hg⟩
      have hfA := ((Five.new w 46 (.int .i64 0) (.int .u64 0) (.int .i64 0) (.slice none 0 0) (.slice none 0 0)).below ((Below.refl _ _).alloc (Nat.le_refl _) (.cells #[.int .i64 1, .int .u64 0, .int .i64 0, .slice none 0 0, .slice none 0 0] 46))).kept hg (by intro e; injection e with e; omega)
      have hfB := (Five.new (w.alloc (.cells #[.int .i64 0, .int .u64 0, .int .i64 0, .slice none 0 0, .slice none 0 0] 46)) 46 (.int .i64 1) (.int .u64 0) (.int .i64 0) (.slice none 0 0) (.slice none 0 0)).kept hg (by simp; omega)
      rw [show (w.alloc (.cells #[.int .i64 0, .int .u64 0, .int .i64 0, .slice none 0 0, .slice none 0 0] 46)).heap.size = w.heap.size + 1 from by simp] at hfB
      have hs1 : w.heap.size + 2 ≤ w1.heap.size := by rw [← HZ.out]; exact hg.size
      have a0 := hfA.cell0
      have af0 := hfA.frozen 0
      have b0 := hfB.cell0
      have bf0 := hfB.frozen 0
      have a1 := hfA.cell1
      have af1 := hfA.frozen 1
      have b1 := hfB.cell1
      have bf1 := hfB.frozen 1
      have a2 := hfA.cell2
      have af2 := hfA.frozen 2
      have b2 := hfB.cell2
      have bf2 := hfB.frozen 2
      have a3 := hfA.cell3
      have af3 := hfA.frozen 3
      have b3 := hfB.cell3
      have bf3 := hfB.frozen 3
      have a4 := hfA.cell4
      have af4 := hfA.frozen 4
      have b4 := hfB.cell4
      have bf4 := hfB.frozen 4
      go_wp2_with fail
      have hk := set1_grown w1 ⟨w.heap.size + 1, 2, none⟩ (.int .i64 (V.rInt s).1)
      have hfA2 := hfA.other hk (by show w.heap.size ≠ w.heap.size + 1; omega)
      have hfin := set5_five hfA2 (.int .i64 1) (.int .u64 0) (.int .i64 (V.rInt s).1) (.slice none 0 0) (.slice none 0 0)
      have hk2 := set5_grown (w1.setCell ⟨w.heap.size + 1, 2, none⟩ (.int .i64 (V.rInt s).1)) w.heap.size (.int .i64 1) (.int .u64 0) (.int .i64 (V.rInt s).1) (.slice none 0 0) (.slice none 0 0)
      refine bodyPost_ret (results_cell_row rfl _ _ w.heap.size 46 _ (0, 0) _ rfl hfin Try.underlying46 rfl (by kernel_rfl)) rfl ?_
      refine ⟨_, rfl, ?_, (hin.kept hk (by intro k e; injection e with e; subst e; show B ≤ w.heap.size + 1 ∧ g ≠ w.heap.size + 1; omega)).kept hk2 (by intro k e; injection e with e; constructor <;> omega), only_row (only_row (only_trans hg0 hg) hk (by intro k e; injection e with e; subst e; show w.heap.size ≤ w.heap.size + 1; omega)) hk2 (by intro k e; injection e with e; omega)⟩
      exact ⟨none, 0, none, 0, rfl, Reads.none_, Reads.none_, (fun ad e => by cases e)⟩
    · skip
      by_cases h2 : kind = 2
      · subst h2
        rw [if_neg (by decide), if_neg (by decide), if_pos rfl]
        obtain ⟨⟨l, s'⟩, hR⟩ : ∃ R, V.rBytes most s = R := ⟨_, rfl⟩
        obtain ⟨k, hkk⟩ : ∃ k, l.length = k := ⟨_, rfl⟩
        have hcall := rBytes_any B g most hm1 hm2 s hsl _ hin0 l k s' hR hkk
        rw [hR]
        clear hR
        have HK := Lib.hid hkk
        clear hkk
        go_enter Try.func23, Try.ntmps23
        go_wp2_with fail
        refine hcall.mono ?_
        rintro e w1 ⟨A, c, rfl, hrd, hin, hg⟩
        clear hcall
        have hfA := ((Five.new w 46 (.int .i64 0) (.int .u64 0) (.int .i64 0) (.slice none 0 0) (.slice none 0 0)).below ((Below.refl _ _).alloc (Nat.le_refl _) (.cells #[.int .i64 2, .int .u64 0, .int .i64 0, .slice none 0 0, .slice none 0 0] 46))).kept hg (by intro e; injection e with e; omega)
        have hfB := (Five.new (w.alloc (.cells #[.int .i64 0, .int .u64 0, .int .i64 0, .slice none 0 0, .slice none 0 0] 46)) 46 (.int .i64 2) (.int .u64 0) (.int .i64 0) (.slice none 0 0) (.slice none 0 0)).kept hg (by simp; omega)
        rw [show (w.alloc (.cells #[.int .i64 0, .int .u64 0, .int .i64 0, .slice none 0 0, .slice none 0 0] 46)).heap.size = w.heap.size + 1 from by simp] at hfB
        have hs1 : w.heap.size + 2 ≤ w1.heap.size := by rw [← HZ.out]; exact hg.size
        have a0 := hfA.cell0
        have af0 := hfA.frozen 0
        have b0 := hfB.cell0
        have bf0 := hfB.frozen 0
        have a1 := hfA.cell1
        have af1 := hfA.frozen 1
        have b1 := hfB.cell1
        have bf1 := hfB.frozen 1
        have a2 := hfA.cell2
        have af2 := hfA.frozen 2
        have b2 := hfB.cell2
        have bf2 := hfB.frozen 2
        have a3 := hfA.cell3
        have af3 := hfA.frozen 3
        have b3 := hfB.cell3
        have bf3 := hfB.frozen 3
        have a4 := hfA.cell4
        have af4 := hfA.frozen 4
        have b4 := hfB.cell4
        have bf4 := hfB.frozen 4
        go_wp2_with fail
        have hk := set1_grown w1 ⟨w.heap.size + 1, 3, none⟩ (.slice A k c)
        have hfA2 := hfA.other hk (by show w.heap.size ≠ w.heap.size + 1; omega)
        have hfin := set5_five hfA2 (.int .i64 2) (.int .u64 0) (.int .i64 0) (.slice A k c) (.slice none 0 0)
        have hk2 := set5_grown (w1.setCell ⟨w.heap.size + 1, 3, none⟩ (.slice A k c)) w.heap.size (.int .i64 2) (.int .u64 0) (.int .i64 0) (.slice A k c) (.slice none 0 0)
        refine bodyPost_ret (results_cell_row rfl _ _ w.heap.size 46 _ (0, 0) _ rfl hfin Try.underlying46 rfl (by kernel_rfl)) rfl ?_
        refine ⟨_, rfl, ?_, (hin.kept hk (by intro k e; injection e with e; subst e; show B ≤ w.heap.size + 1 ∧ g ≠ w.heap.size + 1; omega)).kept hk2 (by intro k e; injection e with e; constructor <;> omega), only_row (only_row (only_trans hg0 hg) hk (by intro k e; injection e with e; subst e; show w.heap.size ≤ w.heap.size + 1; omega)) hk2 (by intro k e; injection e with e; omega)⟩
        have hr := (hrd.grown hk (by omega) (fun k e => by injection e with e; subst e; show B ≤ w.heap.size + 1; omega)).grown hk2 (by have := hk.size; omega) (fun k e => by injection e with e; omega)
        exact ⟨A, c, none, 0, by rw [HK.out]; rfl, by rw [HK.out]; exact hr, Reads.none_, (fun ad e => by cases e)⟩
      · rw [if_neg h0, if_neg h1, if_neg h2]
        have hcall := rInts_any B g most hm1 hm2 s hsl _ hin0
        obtain ⟨⟨l, s'⟩, hR⟩ : ∃ R, V.rInts most s = R := ⟨_, rfl⟩
        rw [hR] at hcall ⊢
        clear hR
        obtain ⟨k, hkk⟩ : ∃ k, l.length = k := ⟨_, rfl⟩
        simp only [hkk] at hcall
        have HK := Lib.hid hkk
        clear hkk
        go_enter Try.func23, Try.ntmps23
        go_wp2_with fail
        refine hcall.mono ?_
        rintro e w1 ⟨v, rfl, hown, hin, hg⟩
        clear hcall
        rw [HZ.out] at hown
        obtain ⟨A, c, rfl, hc, _, _⟩ := own_reads hown
        have hfA := ((Five.new w 46 (.int .i64 0) (.int .u64 0) (.int .i64 0) (.slice none 0 0) (.slice none 0 0)).below ((Below.refl _ _).alloc (Nat.le_refl _) (.cells #[.int .i64 kind, .int .u64 0, .int .i64 0, .slice none 0 0, .slice none 0 0] 46))).kept hg (by intro e; injection e with e; omega)
        have hfB := (Five.new (w.alloc (.cells #[.int .i64 0, .int .u64 0, .int .i64 0, .slice none 0 0, .slice none 0 0] 46)) 46 (.int .i64 kind) (.int .u64 0) (.int .i64 0) (.slice none 0 0) (.slice none 0 0)).kept hg (by simp; omega)
        rw [show (w.alloc (.cells #[.int .i64 0, .int .u64 0, .int .i64 0, .slice none 0 0, .slice none 0 0] 46)).heap.size = w.heap.size + 1 from by simp] at hfB
        have hs1 : w.heap.size + 2 ≤ w1.heap.size := by rw [← HZ.out]; exact hg.size
        have a0 := hfA.cell0
        have af0 := hfA.frozen 0
        have b0 := hfB.cell0
        have bf0 := hfB.frozen 0
        have a1 := hfA.cell1
        have af1 := hfA.frozen 1
        have b1 := hfB.cell1
        have bf1 := hfB.frozen 1
        have a2 := hfA.cell2
        have af2 := hfA.frozen 2
        have b2 := hfB.cell2
        have bf2 := hfB.frozen 2
        have a3 := hfA.cell3
        have af3 := hfA.frozen 3
        have b3 := hfB.cell3
        have bf3 := hfB.frozen 3
        have a4 := hfA.cell4
        have af4 := hfA.frozen 4
        have b4 := hfB.cell4
        have bf4 := hfB.frozen 4
        go_wp2_with fail
        have hk := set1_grown w1 ⟨w.heap.size + 1, 4, none⟩ (.slice A k c)
        have hfA2 := hfA.other hk (by show w.heap.size ≠ w.heap.size + 1; omega)
        have hfin := set5_five hfA2 (.int .i64 kind) (.int .u64 0) (.int .i64 0) (.slice none 0 0) (.slice A k c)
        have hk2 := set5_grown (w1.setCell ⟨w.heap.size + 1, 4, none⟩ (.slice A k c)) w.heap.size (.int .i64 kind) (.int .u64 0) (.int .i64 0) (.slice none 0 0) (.slice A k c)
        refine bodyPost_ret (results_cell_row rfl _ _ w.heap.size 46 _ (0, 0) _ rfl hfin Try.underlying46 rfl (by kernel_rfl)) rfl ?_
        refine ⟨_, rfl, ?_, (hin.kept hk (by intro k e; injection e with e; subst e; show B ≤ w.heap.size + 1 ∧ g ≠ w.heap.size + 1; omega)).kept hk2 (by intro k e; injection e with e; constructor <;> omega), only_row (only_row (only_trans hg0 hg) hk (by intro k e; injection e with e; subst e; show w.heap.size ≤ w.heap.size + 1; omega)) hk2 (by intro k e; injection e with e; omega)⟩
        have hw9 := (own_only (own_only hown hk (by show w.heap.size + 1 < w.heap.size + 2; omega)) hk2 (by omega))
        have hr := Reads.of_own hw9
        have hfb := own_from hw9
        exact ⟨none, 0, A, c, by rw [HK.out]; rfl, Reads.none_, (by rw [HK.out]; exact hr), (fun ad e => by subst e; have := hfb ad.block rfl; omega)⟩
end Go.Proofs.Ytkjlafklhdojmaa
