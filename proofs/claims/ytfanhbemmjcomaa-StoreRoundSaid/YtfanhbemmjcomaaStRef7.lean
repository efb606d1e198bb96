/- The reference's Put. -/
import Derived.Test.YtfanhbemmjcomaaStRef6
namespace Go.Proofs.Ytfanhbemmjcomaa
open Go.RowKit
set_option linter.unusedVariables false

set_option maxRecDepth 10000 in
set_option maxHeartbeats 2000000 in
theorem refPut_any (F : Nat → Prop) (A : Option Addr) (n cap : Nat) (L : List S.R) (sc : Int) (Ab : Option Addr) (kl cb : Nat) (bs : List UInt8) (hkl : bs.length = kl) (hlim : kl ≤ 100000) (L' : List S.R) (k : UInt64) (er : Int) (hR : S.put L bs = (L', k, er)) (hn2 : n < 200) (hcap : n ≤ cap) (w : World) (h : RefAt w F A n L) (hr : Reads w w.heap.size 1 Ab kl (bv bs)) (hA : ∀ ad, Ab = some ad → ad.block < w.heap.size ∧ ¬ F ad.block) (hF : ∀ i, F i → i < w.heap.size) :
    Calls Try.prog 32 #[.agg #[.slice A n cap, .int .i64 sc], .slice Ab kl cb] w fun e w' => ∃ A' n' c', e = .returned (.tuple #[.agg #[.slice A' n' c', .int .i64 sc], .int .u64 (k.toNat : Int), .int .i64 er]) ∧ n' ≤ c' ∧ RefAt w' F A' n' L' ∧ Below w.heap.size w w' := by
  obtain ⟨w1, hw1⟩ : ∃ x, w.alloc (.cells #[.slice A n cap, .int .i64 sc] 43) = x := ⟨_, rfl⟩
  obtain ⟨w2, hw2⟩ : ∃ x, w1.alloc (.cells #[.slice none 0 0, .int .i64 0] 43) = x := ⟨_, rfl⟩
  have d1 : Below w.heap.size w w1 := by rw [← hw1]; exact (Below.refl _ _).alloc (Nat.le_refl _) _
  have d2 : Below w1.heap.size w1 w2 := by rw [← hw2]; exact (Below.refl _ _).alloc (Nat.le_refl _) _
  have s1 : w1.heap.size = w.heap.size + 1 := by rw [← hw1]; simp
  have s2 : w2.heap.size = w.heap.size + 1 + 1 := by rw [← hw2, World.size_alloc, s1]
  have hd2 := blater d1 (Nat.le_refl _) d2
  have htw := Two.new w 43 (.slice A n cap) (.int .i64 sc)
  rw [hw1] at htw
  have tr2 := Two.new w1 43 (.slice none 0 0) (.int .i64 0)
  rw [hw2, s1] at tr2
  have tw2 := htw.below d2
  have t0 := tw2.cell0
  have t1 := tw2.cell1
  have r0 := tr2.cell0
  have r1 := tr2.cell1
  have f0 := tr2.frozen0
  have f1 := tr2.frozen1
  have hr2 := hr.later hd2
  have HA := Lib.hid hA
  have HF := Lib.hid hF
  have HKL := Lib.hid hkl
  have S2 := Lib.hid s2
  have hclose : ∀ (W : World), Below w2.heap.size w2 W → Below w.heap.size w ((W.setCell ⟨w.heap.size + 1, 0, none⟩ (.slice A n cap)).setCell ⟨w.heap.size + 1, 1, none⟩ (.int .i64 sc)) := fun W hb => (blater hd2 (Nat.le_refl _) hb).trans ((two_turn (g := w.heap.size + 1) (w := W) (.slice A n cap) (.int .i64 sc)).below (by have := (blater hd2 (Nat.le_refl _) hb).size; omega) (fun i hi => by omega))
  have HCL := Lib.hid hclose
  clear d1 d2 hA hF htw hclose
  unfold S.put at hR
  by_cases h6 : 65536 < kl
  · rw [if_pos (by omega)] at hR
    injection hR with e1 e2; injection e2 with e2 e3
    subst e1 e2 e3
    have h6i : (65536 : Int) < (kl : Int) := by omega
    go_enter Try.func32, Try.ntmps32
    go_wp2_with fail
    (try simp only [Exit.inBlock, Exit.then])
    try rw [hw1]
    try rw [hw2]
    refine bodyPost_ret (res_S3 rfl _ _ _ _ _ rfl ((tr2.set0 (.slice A n cap)).set1 (.int .i64 sc))) rfl ?_
    have hb := HCL.out w2 (Below.refl _ _)
    exact ⟨_, _, _, rfl, hcap, h.later hb, hb⟩
  · rw [if_neg (by omega)] at hR
    have h6i : (kl : Int) ≤ 65536 := by omega
    obtain ⟨x, hx⟩ : ∃ x, S.key bs = x := ⟨_, rfl⟩
    rw [hx] at hR
    have HX := Lib.hid hx
    obtain ⟨has, hh⟩ : ∃ y, (S.get L x).isSome = y := ⟨_, rfl⟩
    obtain ⟨ob, hob⟩ : ∃ y, (S.get L x).getD [] = y := ⟨_, rfl⟩
    obtain ⟨kb, hkb⟩ : ∃ y, ob.length = y := ⟨_, rfl⟩
    have hdd : Below w2.heap.size w2 w2.drew := Below.drew (Below.refl w2.heap.size w2)
    have h2 := h.later hd2
    have hcg := fun W h => refGet_any F A n cap L sc x ob kb has hh hob hkb (by omega) hcap W h
    have HG := Lib.hid hcg
    have HKB := Lib.hid hkb
    have e0 : w2.drew.cell? ⟨w.heap.size, 0, none⟩ = some (.slice A n cap) := t0
    have e1 : w2.drew.cell? ⟨w.heap.size, 1, none⟩ = some (.int .i64 sc) := t1
    have hr2d := hr2.later hdd
    clear hx hcg hkb
    go_enter Try.func32, Try.ntmps32
    go_wp2_with fail
    try rw [hw1]
    try rw [hw2]
    clear hw1 hw2 s1 s2
    go_region_held3 (fun w' => w'.cell? ⟨w.heap.size, 0, none⟩ = some (.slice A n cap) ∧ w'.cell? ⟨w.heap.size, 1, none⟩ = some (.int .i64 sc))
      (first | exact ⟨e0, e1⟩ | assumption)
      (first
        | (go_at_call 35; refine (key_any Ab kl cb bs x HX.out HKL.out (by omega) _ hr2d).mono ?_; rintro e w3 ⟨rfl, hd3⟩; have hS3 := And.intro ((hd3.cell (cell_lt e0)).trans e0) ((hd3.cell (cell_lt e1)).trans e1); have hb3 := blater hdd (Nat.le_refl _) hd3)
        | (go_at_call 26; refine (HG.out _ (h2.later hb3)).mono ?_; rintro e w4 ⟨A4, c4, rfl, hr4, hd4⟩; have hS4 := And.intro ((hd4.cell (cell_lt hS3.1)).trans hS3.1) ((hd4.cell (cell_lt hS3.2)).trans hS3.2); have hb4 := blater hb3 (Nat.le_refl _) hd4))
    have hcv1 := conv_string w4 A4 kb c4 ob HKB.out hr4
    have hcv2 := conv_string w4 Ab kl cb bs HKL.out (hr2d.later (blater hd3 (Nat.le_refl _) hd4))
    have tr4 := tr2.below hb4
    have tw4 := tw2.below hb4
    have z0 := tr4.cell0
    have z1 := tr4.cell1
    have g0 := tr4.frozen0
    have g1 := tr4.frozen1
    have hr4b := hr2.later hb4
    clear e0 e1 hS3 hd3 hd4 hdd hr2d t0 t1 r0 r1 f0 f1
    cases hgt : S.get L x with
    | none =>
      rw [hgt] at hR hh hob
      have hob : [] = ob := hob
      subst hob
      obtain rfl : false = has := hh
      have hR : (L ++ [S.R.obj bs], x, (0 : Int)) = (L', k, er) := hR
      injection hR with e1 e2; injection e2 with e2 e3
      subst e1 e2 e3
      have hbw4 := blater hd2 (Nat.le_refl _) hb4
      have hF4 : ∀ i, (F i ∨ i = w.heap.size ∨ i = w.heap.size + 1) → i < w4.heap.size := fun i hi => by
        have := S2.out; have := hb4.size
        rcases hi with hi | hi | hi
        · have := HF.out i hi; omega
        · omega
        · omega
      have h4 : RefAt w4 (fun i => F i ∨ i = w.heap.size ∨ i = w.heap.size + 1) A n L := (h.turn (Turn.refl F w) (G := fun i => F i ∨ i = w.heap.size ∨ i = w.heap.size + 1) (fun i hi => by
        rcases hi with hi | hi | hi
        · exact .inl hi
        · exact .inr (by omega)
        · exact .inr (by omega))).later hbw4
      have hA4 : ∀ ad, Ab = some ad → ad.block < w4.heap.size ∧ ¬ (F ad.block ∨ ad.block = w.heap.size ∨ ad.block = w.heap.size + 1) := fun ad e => by
        have h1 := HA.out ad e
        have := hbw4.size
        refine ⟨by omega, ?_⟩
        rintro (h2 | h2 | h2)
        · exact h1.2 h2
        · omega
        · omega
      have HADD : Hid (∀ W, W = w4 → Calls Try.prog 45 #[.agg #[.slice A n cap, .int .i64 sc], .agg #[.bool true, .slice Ab kl cb, .int .u64 0, .int .u64 0]] W fun e w' => ∃ A' c', e = .returned (.agg #[.slice A' (n + 1) c', .int .i64 sc]) ∧ n + 1 ≤ c' ∧ RefAt w' (fun i => F i ∨ i = w.heap.size ∨ i = w.heap.size + 1) A' (n + 1) (L ++ [.obj bs]) ∧ Below W.heap.size W w') := Lib.hid (fun W e => by
        subst e
        exact refAdd_any _ A n cap L sc (.obj bs) true kl 0 0 rfl HKL.out rfl rfl Ab cb (by omega) hn2 hcap _ h4 hr4b hA4 hF4)
      have q0 := tw4.cell0
      have q1 := tw4.cell1
      clear hF4 h4 hA4 z0 z1 g0 g1 hcv2
      go_wp2_with fail
      refine (HADD.out _ rfl).mono ?_
      rintro e w5 ⟨A5, c5, rfl, hc5, h5, hd5⟩
      have tw5 := tw4.below hd5
      have tr5 := tr4.below hd5
      have p0 := tw5.cell0
      have p1 := tw5.cell1
      have p2 := tw5.frozen0
      have p3 := tw5.frozen1
      clear q0 q1
      go_wp2_with fail
      obtain ⟨w6, hw6⟩ : ∃ y, (w5.setCell ⟨w.heap.size, 0, none⟩ (.slice A5 (n + 1) c5)).setCell ⟨w.heap.size, 1, none⟩ (.int .i64 sc) = y := ⟨_, rfl⟩
      have t56 : Turn (fun i => i = w.heap.size) w5 w6 := by rw [← hw6]; exact two_turn _ _
      have tw6 : Two w6 w.heap.size 43 (.slice A5 (n + 1) c5) (.int .i64 sc) := by rw [← hw6]; exact (tw5.set0 _).set1 _
      have tr6 : Two w6 (w.heap.size + 1) 43 (.slice none 0 0) (.int .i64 0) := (t56.block _ tr5.lt (by omega)).trans tr5
      have h6b : RefAt w6 (fun i => F i ∨ i = w.heap.size ∨ i = w.heap.size + 1) A5 (n + 1) (L ++ [.obj bs]) := h5.turn (F := fun i => F i ∨ i = w.heap.size ∨ i = w.heap.size + 1) (⟨t56.os, t56.tape, t56.output, t56.size, fun i hi hn => t56.block i hi (fun e => hn (.inr (.inl e)))⟩) (fun i hi => .inl hi)
      have bw5 := blater hbw4 (Nat.le_refl _) hd5
      have bw6 : Below w.heap.size w w6 := bw5.trans (t56.below bw5.size (fun i hi => by omega))
      have hdd6 : Below w6.heap.size w6 w6.drew := Below.drew (Below.refl w6.heap.size w6)
      have hr6d := (hr.later bw6).later hdd6
      have e0 : w6.drew.cell? ⟨w.heap.size, 0, none⟩ = some (.slice A5 (n + 1) c5) := tw6.cell0
      have e1 : w6.drew.cell? ⟨w.heap.size, 1, none⟩ = some (.int .i64 sc) := tw6.cell1
      rw [hw6]
      clear hw6 p0 p1 p2 p3 h5 HADD
      go_region_held3 (fun w' => w'.cell? ⟨w.heap.size, 0, none⟩ = some (.slice A5 (n + 1) c5) ∧ w'.cell? ⟨w.heap.size, 1, none⟩ = some (.int .i64 sc))
        (first | exact ⟨e0, e1⟩ | assumption)
        (first | (go_at_call 35; refine (key_any Ab kl cb bs x HX.out HKL.out (by omega) _ hr6d).mono ?_; rintro e w7 ⟨rfl, hd7⟩; have hS7 := And.intro ((hd7.cell (cell_lt e0)).trans e0) ((hd7.cell (cell_lt e1)).trans e1); have b67 := hdd6.trans hd7; have tr7 := tr6.below b67; have y0 := tr7.cell0; have y1 := tr7.cell1; have k0 := tr7.frozen0; have k1 := tr7.frozen1; have hS8 := And.intro ((two_turn (w := w7) (g := w.heap.size + 1) (.slice A5 (n + 1) c5) (.int .i64 sc)).cell hS7.1 (by show ¬ (w.heap.size = w.heap.size + 1); omega)) ((two_turn (w := w7) (g := w.heap.size + 1) (.slice A5 (n + 1) c5) (.int .i64 sc)).cell hS7.2 (by show ¬ (w.heap.size = w.heap.size + 1); omega))))
      go_wp2_with fail
      (try simp only [Exit.inBlock, Exit.then])
      refine bodyPost_ret (res_S3 rfl _ _ _ _ _ rfl ((tr7.set0 (.slice A5 (n + 1) c5)).set1 (.int .i64 sc))) rfl ?_
      have h7 := h6b.later b67
      have bw7 := blater bw6 (Nat.le_refl _) b67
      have t8 := two_turn (w := w7) (g := w.heap.size + 1) (.slice A5 (n + 1) c5) (.int .i64 sc)
      have h8 := h7.turn (G := F) (⟨t8.os, t8.tape, t8.output, t8.size, fun i hi hn => t8.block i hi (fun e => hn (.inr (.inr e)))⟩) (fun i hi => .inl (.inl hi))
      exact ⟨_, _, _, rfl, hc5, h8, bw7.trans (t8.below bw7.size (fun i hi => by omega))⟩
    | some c =>
      rw [hgt] at hR hh hob
      have hob : c = ob := hob
      subst hob
      obtain rfl : true = has := hh
      by_cases hcb : c = bs
      · subst hcb
        have hR : (if c = c then (L, x, 0) else (L, 0, 4)) = (L', k, er) := hR
        rw [if_pos rfl] at hR
        injection hR with e1 e2; injection e2 with e2 e3
        subst e1 e2 e3
        go_wp2_with fail
        have hdd4 : Below w4.heap.size w4 w4.drew := Below.drew (Below.refl w4.heap.size w4)
        have hr4d := hr4b.later hdd4
        have e0 : w4.drew.cell? ⟨w.heap.size, 0, none⟩ = some (.slice A n cap) := tw4.cell0
        have e1 : w4.drew.cell? ⟨w.heap.size, 1, none⟩ = some (.int .i64 sc) := tw4.cell1
        go_region_held3 (fun w' => w'.cell? ⟨w.heap.size, 0, none⟩ = some (.slice A n cap) ∧ w'.cell? ⟨w.heap.size, 1, none⟩ = some (.int .i64 sc))
          (first | exact ⟨e0, e1⟩ | assumption)
          (first | (go_at_call 35; refine (key_any Ab kl cb c x HX.out HKL.out (by omega) _ hr4d).mono ?_; rintro e w5 ⟨rfl, hd5⟩; have hS5 := And.intro ((hd5.cell (cell_lt e0)).trans e0) ((hd5.cell (cell_lt e1)).trans e1); have hb5 := blater (blater hb4 (Nat.le_refl _) hdd4) (Nat.le_refl _) hd5; have tr5 := tr2.below hb5; have y0 := tr5.cell0; have y1 := tr5.cell1; have k0 := tr5.frozen0; have k1 := tr5.frozen1; have hS6 := And.intro ((two_turn (w := w5) (g := w.heap.size + 1) (.slice A n cap) (.int .i64 sc)).cell hS5.1 (by show ¬ (w.heap.size = w.heap.size + 1); omega)) ((two_turn (w := w5) (g := w.heap.size + 1) (.slice A n cap) (.int .i64 sc)).cell hS5.2 (by show ¬ (w.heap.size = w.heap.size + 1); omega))))
        go_wp2_with fail
        (try simp only [Exit.inBlock, Exit.then])
        refine bodyPost_ret (res_S3 rfl _ _ _ _ _ rfl ((tr5.set0 (.slice A n cap)).set1 (.int .i64 sc))) rfl ?_
        have hb := HCL.out w5 hb5
        exact ⟨_, _, _, rfl, hcap, h.later hb, hb⟩
      · have hne : (c == bs) = false := by rw [beq_eq_false_iff_ne]; exact hcb
        have hR : (if c = bs then (L, x, 0) else (L, 0, 4)) = (L', k, er) := hR
        rw [if_neg hcb] at hR
        injection hR with e1 e2; injection e2 with e2 e3
        subst e1 e2 e3
        go_wp2_with fail
        (try simp only [Exit.inBlock, Exit.then])
        refine bodyPost_ret (res_S3 rfl _ _ _ _ _ rfl ((tr4.set0 (.slice A n cap)).set1 (.int .i64 sc))) rfl ?_
        have hb := HCL.out w4 hb4
        exact ⟨_, _, _, rfl, hcap, h.later hb, hb⟩
end Go.Proofs.Ytfanhbemmjcomaa
