/- The reference's Bind. -/
import Derived.Test.YtfanhbemmjcomaaStRef7
namespace Go.Proofs.Ytfanhbemmjcomaa
open Go.RowKit
set_option linter.unusedVariables false

set_option maxRecDepth 10000 in
set_option maxHeartbeats 2000000 in
theorem refBind_any (F : Nat → Prop) (A : Option Addr) (n cap : Nat) (L : List S.R) (sc : Int) (x k : UInt64) (L' : List S.R) (er : Int) (hR : S.bind L x k = (L', er)) (hn2 : n < 200) (hcap : n ≤ cap) (w : World) (h : RefAt w F A n L) (hF : ∀ i, F i → i < w.heap.size) :
    Calls Try.prog 43 #[.agg #[.slice A n cap, .int .i64 sc], .int .u64 (x.toNat : Int), .int .u64 (k.toNat : Int)] w fun e w' => ∃ A' n' c', e = .returned (.tuple #[.agg #[.slice A' n' c', .int .i64 sc], .int .i64 er]) ∧ n' ≤ c' ∧ RefAt w' F A' n' L' ∧ Below w.heap.size w w' := by
  obtain ⟨w1, hw1⟩ : ∃ x, w.alloc (.cells #[.slice A n cap, .int .i64 sc] 43) = x := ⟨_, rfl⟩
  obtain ⟨w2, hw2⟩ : ∃ x, w1.alloc (.cells #[.slice none 0 0, .int .i64 0] 43) = x := ⟨_, rfl⟩
  have d1 : Below w.heap.size w w1 := by rw [← hw1]; exact (Below.refl _ _).alloc (Nat.le_refl _) _
  have d2 : Below w1.heap.size w1 w2 := by rw [← hw2]; exact (Below.refl _ _).alloc (Nat.le_refl _) _
  have s1 : w1.heap.size = w.heap.size + 1 := by rw [← hw1]; simp
  have s2 : w2.heap.size = w.heap.size + 1 + 1 := by rw [← hw2, World.size_alloc, s1]
  have hd2 := blater d1 (Nat.le_refl _) d2
  have htw := Two.new w 43 (.slice A n cap) (.int .i64 sc)
  rw [hw1] at htw
  have tr2 := Two.new w1 43 (.slice none 0 0) (.int .i64 0)
  rw [hw2, s1] at tr2
  have tw2 := htw.below d2
  have t0 := tw2.cell0
  have t1 := tw2.cell1
  have r0 := tr2.cell0
  have r1 := tr2.cell1
  have f0 := tr2.frozen0
  have f1 := tr2.frozen1
  have HF := Lib.hid hF
  have S2 := Lib.hid s2
  have hclose : ∀ (W : World), Below w2.heap.size w2 W → Below w.heap.size w ((W.setCell ⟨w.heap.size + 1, 0, none⟩ (.slice A n cap)).setCell ⟨w.heap.size + 1, 1, none⟩ (.int .i64 sc)) := fun W hb => (blater hd2 (Nat.le_refl _) hb).trans ((two_turn (g := w.heap.size + 1) (w := W) (.slice A n cap) (.int .i64 sc)).below (by have := (blater hd2 (Nat.le_refl _) hb).size; omega) (fun i hi => by omega))
  have HCL := Lib.hid hclose
  clear d1 d2 hF htw hclose
  have h2 := h.later hd2
  obtain ⟨has, hh⟩ : ∃ y, (S.get L k).isSome = y := ⟨_, rfl⟩
  obtain ⟨ob, hob⟩ : ∃ y, (S.get L k).getD [] = y := ⟨_, rfl⟩
  obtain ⟨kb, hkb⟩ : ∃ y, ob.length = y := ⟨_, rfl⟩
  have HG := Lib.hid (fun W h => refGet_any F A n cap L sc k ob kb has hh hob hkb (by omega) hcap W h)
  obtain ⟨bd, hbd⟩ : ∃ y, (S.look L x).isSome = y := ⟨_, rfl⟩
  obtain ⟨j, hj⟩ : ∃ y, (S.look L x).getD 0 = y := ⟨_, rfl⟩
  have HLK := Lib.hid (fun W h => refLook_any F A n cap L sc x j bd hbd hj (by omega) hcap W h)
  clear hob hkb
  go_enter Try.func43, Try.ntmps43
  go_wp2_with fail
  try rw [hw1]
  try rw [hw2]
  clear hw1 hw2 s1 s2
  refine (HG.out _ h2).mono ?_
  rintro e w4 ⟨A4, c4, rfl, hr4, hb4⟩
  have tr4 := tr2.below hb4
  have tw4 := tw2.below hb4
  have q0 := tw4.cell0
  have q1 := tw4.cell1
  have z0 := tr4.cell0
  have z1 := tr4.cell1
  have g0 := tr4.frozen0
  have g1 := tr4.frozen1
  clear t0 t1 r0 r1 f0 f1 HG
  unfold S.bind at hR
  cases hgt : S.get L k with
  | none =>
    rw [hgt] at hR hh
    obtain rfl : false = has := hh
    have hR : (L, (3 : Int)) = (L', er) := hR
    injection hR with e1 e2
    subst e1 e2
    go_wp2_with fail
    (try simp only [Exit.inBlock, Exit.then])
    refine bodyPost_ret (res_S2 rfl _ _ _ _ _ rfl ((tr4.set0 (.slice A n cap)).set1 (.int .i64 sc))) rfl ?_
    have hb := HCL.out w4 hb4
    exact ⟨_, _, _, rfl, hcap, h.later hb, hb⟩
  | some b =>
    rw [hgt] at hR hh
    obtain rfl : true = has := hh
    have hR : (if S.look L x = some k then (L, (0 : Int)) else (L ++ [S.R.bind x k], 0)) = (L', er) := hR
    go_wp2_with fail
    refine (HLK.out _ (h2.later hb4)).mono ?_
    rintro e w5 ⟨rfl, hd5⟩
    have hb5 := blater hb4 (Nat.le_refl _) hd5
    have tr5 := tr2.below hb5
    have tw5 := tw2.below hb5
    have q0 := tw5.cell0
    have q1 := tw5.cell1
    have z0 := tr5.cell0
    have z1 := tr5.cell1
    have g0 := tr5.frozen0
    have g1 := tr5.frozen1
    clear HLK hr4
    by_cases hlk : S.look L x = some k
    · rw [if_pos hlk] at hR
      injection hR with e1 e2
      subst e1 e2
      obtain rfl : bd = true := by rw [← hbd, hlk]; rfl
      obtain rfl : j = k := by rw [← hj, hlk]; rfl
      clear hbd hj
      go_wp2_with fail
      (try simp only [Exit.inBlock, Exit.then])
      refine bodyPost_ret (res_S2 rfl _ _ _ _ _ rfl ((tr5.set0 (.slice A n cap)).set1 (.int .i64 sc))) rfl ?_
      have hb := HCL.out w5 hb5
      exact ⟨_, _, _, rfl, hcap, h.later hb, hb⟩
    · rw [if_neg hlk] at hR
      injection hR with e1 e2
      subst e1 e2
      have hjk : bd = true → ((j.toNat : Int) == (k.toNat : Int)) = false := fun e => by
        rw [beq_eq_false_iff_ne]
        intro e2
        have e3 : j = k := UInt64.toNat_inj.1 (by omega)
        cases hl : S.look L x with
        | none => rw [hl] at hbd; rw [e] at hbd; cases hbd
        | some y =>
          rw [hl] at hj hlk
          have hj : y = j := hj
          exact hlk (by rw [hj, e3])
      have hbw5 := blater hd2 (Nat.le_refl _) hb5
      have hF5 : ∀ i, (F i ∨ i = w.heap.size ∨ i = w.heap.size + 1) → i < w5.heap.size := fun i hi => by
        have := S2.out; have := hb5.size
        rcases hi with hi | hi | hi
        · have := HF.out i hi; omega
        · omega
        · omega
      have h5 : RefAt w5 (fun i => F i ∨ i = w.heap.size ∨ i = w.heap.size + 1) A n L := (h.turn (Turn.refl F w) (G := fun i => F i ∨ i = w.heap.size ∨ i = w.heap.size + 1) (fun i hi => by
        rcases hi with hi | hi | hi
        · exact .inl hi
        · exact .inr (by omega)
        · exact .inr (by omega))).later hbw5
      have HADD : Hid (∀ W, W = w5 → Calls Try.prog 45 #[.agg #[.slice A n cap, .int .i64 sc], .agg #[.bool false, .slice none 0 0, .int .u64 (x.toNat : Int), .int .u64 (k.toNat : Int)]] W fun e w' => ∃ A' c', e = .returned (.agg #[.slice A' (n + 1) c', .int .i64 sc]) ∧ n + 1 ≤ c' ∧ RefAt w' (fun i => F i ∨ i = w.heap.size ∨ i = w.heap.size + 1) A' (n + 1) (L ++ [.bind x k]) ∧ Below W.heap.size W w') := Lib.hid (fun W e => by
        subst e
        exact refAdd_any _ A n cap L sc (.bind x k) false 0 x k rfl rfl rfl rfl none 0 (by omega) hn2 hcap _ h5 ⟨rfl, fun h => absurd h (by omega)⟩ (fun ad e => by cases e) hF5)
      clear h5 hF5 hbd hj hlk
      cases bd
      all_goals
        first
          | (have hjk := hjk rfl)
          | clear hjk
        go_wp2_with fail
        refine (HADD.out _ rfl).mono ?_
        rintro e w6 ⟨A6, c6, rfl, hc6, h6, hd6⟩
        have hb6 := blater hb5 (Nat.le_refl _) hd6
        have tw6 := tw2.below hb6
        have tr6 := tr2.below hb6
        have p0 := tw6.cell0
        have p1 := tw6.cell1
        have p2 := tw6.frozen0
        have p3 := tw6.frozen1
        obtain ⟨w7, hw7⟩ : ∃ y, (w6.setCell ⟨w.heap.size, 0, none⟩ (.slice A6 (n + 1) c6)).setCell ⟨w.heap.size, 1, none⟩ (.int .i64 sc) = y := ⟨_, rfl⟩
        have t67 : Turn (fun i => i = w.heap.size) w6 w7 := by rw [← hw7]; exact two_turn _ _
        have tw7 : Two w7 w.heap.size 43 (.slice A6 (n + 1) c6) (.int .i64 sc) := by rw [← hw7]; exact (tw6.set0 _).set1 _
        have tr7 : Two w7 (w.heap.size + 1) 43 (.slice none 0 0) (.int .i64 0) := (t67.block _ tr6.lt (by omega)).trans tr6
        have h7 : RefAt w7 (fun i => F i ∨ i = w.heap.size ∨ i = w.heap.size + 1) A6 (n + 1) (L ++ [.bind x k]) := h6.turn (F := fun i => F i ∨ i = w.heap.size ∨ i = w.heap.size + 1) (⟨t67.os, t67.tape, t67.output, t67.size, fun i hi hn => t67.block i hi (fun e => hn (.inr (.inl e)))⟩) (fun i hi => .inl hi)
        have bw6 := blater hd2 (Nat.le_refl _) hb6
        have bw7 : Below w.heap.size w w7 := bw6.trans (t67.below bw6.size (fun i hi => by omega))
        have y0 := tw7.cell0
        have y1 := tw7.cell1
        have y2 := tr7.cell0
        have y3 := tr7.cell1
        have y4 := tr7.frozen0
        have y5 := tr7.frozen1
        clear q0 q1 z0 z1 g0 g1 h6
        go_wp2_with fail
        try rw [hw7]
        try clear hw7
        try go_wp2_with fail
        (try simp only [Exit.inBlock, Exit.then])
        refine bodyPost_ret (res_S2 rfl _ _ _ _ _ rfl ((tr7.set0 (.slice A6 (n + 1) c6)).set1 (.int .i64 sc))) rfl ?_
        have t8 := two_turn (w := w7) (g := w.heap.size + 1) (.slice A6 (n + 1) c6) (.int .i64 sc)
        have h8 := h7.turn (G := F) (⟨t8.os, t8.tape, t8.output, t8.size, fun i hi hn => t8.block i hi (fun e => hn (.inr (.inr e)))⟩) (fun i hi => .inl (.inl hi))
        exact ⟨_, _, _, rfl, hc6, h8, bw7.trans (t8.below bw7.size (fun i hi => by omega))⟩
end Go.Proofs.Ytfanhbemmjcomaa
