/- The law StoreOwn, walked. -/
import Derived.Test.YtfanhbemmjcomaaStPutF
namespace Go.Proofs.Ytfanhbemmjcomaa
open Go.RowKit
set_option linter.unusedVariables false

/-- A block that is made later holds none of the map's objects. -/
theorem StAt.free {W : World} {base g bo bn sy q : Nat} {v : Value} {L : List S.R} (h : StAt W base g bo bn v L sy) (hq : W.heap.size ≤ q) : Free W bo q := by
  obtain ⟨f, hf, hfx⟩ := h.objs
  refine ⟨f, _, hf, fun x A k c ad e e' eq => ?_⟩
  cases hg : S.get L x with
  | none => rw [(hfx x).1 hg] at e; cases e
  | some b =>
    obtain ⟨u, h1, A', c', h2, _, _, _, h6⟩ := (hfx x).2 b hg
    rw [h1, h2] at e
    injection e with e; injection e with e1 e2 e3
    subst e1
    have := (h6 ad e').2.1
    omega
theorem Free.later {W W' : World} {bo q : Nat} (h : Free W bo q) (hb : Below W.heap.size W W') : Free W' bo q := by
  obtain ⟨f, n, hf, hx⟩ := h
  exact ⟨f, n, hf.below hb, hx⟩
/-- One cell of a block turned. -/
theorem one_turn {w : World} {g k : Nat} (u : Value) : Turn (fun i => i = g) w (w.setCell ⟨g, k, none⟩ u) :=
  Turn.of_grown (set1_grown w ⟨g, k, none⟩ u) (fun i e => .inl (by injection e with e; exact e.symm))

/-- A cell of an own row: its block, what it holds, that it can be written. -/
theorem own_cell {w : World} {base n c k : Nat} {A : Option Addr} {e : TypeId} {l : List UInt8} (h : w.ownsRow base e 1 (.slice A n c) n (bv l)) (hk : k < n) :
    ∃ g d, A = some ⟨g, 0, none⟩ ∧ base ≤ g ∧ g < w.heap.size ∧ w.cell? ⟨g, k, none⟩ = some (.int .u8 ((d : UInt8).toNat : Int)) ∧ w.frozen? ⟨g, k, none⟩ = false := by
  have hl : l.length = n := by have := h.1; simp [bv] at this; omega
  have hc := Reads.of_own h
  rcases h.2 with ⟨_, h0⟩ | ⟨g, cap, cur, hv, hb, hh, _⟩
  · omega
  · injection hv with h1 h2 h3
    subst h1
    obtain ⟨ad, e1, hlt, hcell⟩ := hc.2 (by omega)
    injection e1 with e1; subst e1
    refine ⟨g, l[k]'(by omega), rfl, hb, hlt, ?_, ?_⟩
    · have := hcell k (.int .u8 ((l[k]'(by omega)).toNat : Int)) (by simp [bv, hl, hk])
      rw [← this]
      congr 1
      unfold Addr.add
      split <;> simp_all
    · simp [World.frozen?, hh]
theorem below_one {w : World} {g k B : Nat} (u : Value) (hB : B ≤ w.heap.size) (hg : B ≤ g) : Below B w (w.setCell ⟨g, k, none⟩ u) :=
  (one_turn u).below hB (fun i hi => by omega)

set_option maxRecDepth 10000 in
set_option maxHeartbeats 8000000 in
theorem storeOwn_walk (a : Option Addr) (len cap : Nat) (zs : List Int) (w : World) (hr : IsRow .i64 w a len cap zs) :
    Calls Try.prog 6 #[.slice a len cap] w fun e W' => e = .returned (.bool true) ∧ Below w.heap.size w W' := by
  obtain ⟨ks, hkl, hlc, hcm, hrd, hwf⟩ := isRow_ints hr
  have HB := Lib.hid (built_any a len cap ks hkl (by omega) (fun n hn => wf_bd (hwf n hn)) w hrd)
  obtain ⟨x, hx⟩ : ∃ x, S.key S.own = x := ⟨_, rfl⟩
  have HX := Lib.hid hx
  clear hkl hlc hcm hwf hr hrd hx
  go_enter Try.func6, Try.ntmps6
  go_wp2_with fail
  refine HB.out.mono ?_
  rintro e w1 ⟨g, bo, bn, v, L, sy, A, n, cap, sc, rfl, hs1, hr1, hnc, hscn, hsy, hL16, hgf, hb1⟩
  clear HB
  have hcv := Lib.run_convert_bytes_const (P := Try.prog) (w1.alloc (.cells #[.slice A n cap, .int .i64 (sc : Int)] 43)) 22 5 #[.int .u8 111, .int .u8 119, .int .u8 110, .int .u8 32, .int .u8 98, .int .u8 121, .int .u8 116, .int .u8 101, .int .u8 115] 9 9 Try.underlying22 Try.underlying5
  rw [World.size_alloc] at hcv
  go_wp2_with fail
  obtain ⟨w2, hw2⟩ : ∃ y, w1.alloc (.cells #[.slice A n cap, .int .i64 (sc : Int)] 43) = y := ⟨_, rfl⟩
  have tB := Two.new w1 43 (.slice A n cap) (.int .i64 (sc : Int))
  have db : Below w1.heap.size w1 w2 := by rw [← hw2]; exact (Below.refl _ _).alloc (Nat.le_refl _) _
  have hq : w1.heap.size + 1 = w2.heap.size := by rw [← hw2, World.size_alloc]
  rw [hw2] at tB
  obtain ⟨q, hqd⟩ : ∃ y, w1.heap.size + 1 = y := ⟨_, rfl⟩
  have hq2 : w2.heap.size = q := by omega
  have hwq : w.heap.size ≤ q := by have := hb1.size; omega
  obtain ⟨w3, hw3⟩ : ∃ y, w2.alloc (.cells #[.int .u8 111, .int .u8 119, .int .u8 110, .int .u8 32, .int .u8 98, .int .u8 121, .int .u8 116, .int .u8 101, .int .u8 115] 5 (9, 10)) = y := ⟨_, rfl⟩
  have d3 : Below w2.heap.size w2 w3 := by rw [← hw3]; exact (Below.refl _ _).alloc (Nat.le_refl _) _
  have z3 : w3.heap.size = q + 1 := by rw [← hw3, World.size_alloc, hq2]
  have o3 : w3.heap[q]? = some (.cells #[.int .u8 111, .int .u8 119, .int .u8 110, .int .u8 32, .int .u8 98, .int .u8 121, .int .u8 116, .int .u8 101, .int .u8 115] 5 (9, 10)) := by rw [← hw3, ← hq2]; exact World.alloc_heap_new w2 _
  have hrO : Reads w3 w3.heap.size 1 (some ⟨q, 0, none⟩) 9 (bv S.own) := by
    rw [← hw3, ← hq2]
    exact Reads.newM w2 [.int .u8 111, .int .u8 119, .int .u8 110, .int .u8 32, .int .u8 98, .int .u8 121, .int .u8 116, .int .u8 101, .int .u8 115] 5 9 (9, 10) rfl
  have b13 : Below w1.heap.size w1 w3 := blater db (Nat.le_refl _) d3
  have hs3 := hs1.later b13
  have hf3 : Free w3 bo q := (hs1.free (q := q) (by omega)).later b13
  have hnq : ¬ far g bo bn v q := fun h => by have := hs1.far_lt _ h; omega
  have hnB : ¬ far g bo bn v w1.heap.size := fun h => by have := hs1.far_lt _ h; omega
  have hr3 : RefAt w3 (farB g bo bn v q) A n L := hr1.turn (Turn.of_below (far g bo bn v) b13) (fun i hi => by
    rcases hi with hi | hi
    · exact .inl hi
    · exact .inr (by omega))
  have tB3 := tB.below d3
  have hb3 := blater hb1 (Nat.le_refl _) b13
  have hg0 : S.get L x = none := by have := hgf.2.own; rwa [HX.out] at this
  have hg1 : S.get (L ++ [.obj S.own]) x = some S.own := S.get_snoc_hit HX.out hg0
  obtain ⟨gB, hgB⟩ : ∃ y, w1.heap.size = y := ⟨_, rfl⟩
  have HG0 := Lib.hid hg0
  have HG1 := Lib.hid hg1
  have HGF := Lib.hid hgf
  have HSY := Lib.hid hsy
  rw [hgB] at hqd hnB tB3 ⊢
  simp only [hqd]
  try rw [hw2]
  try rw [hw3]
  clear hcv hgf hsy hg0 hg1 hr1 hs1 hb1 db d3 b13 tB
  refine (put_newF w.heap.size g bo bn sy v L (some ⟨q, 0, none⟩) 9 9 S.own x rfl (by omega) HX.out HG0.out (by omega) w3 hs3 hrO (by rintro ad e; injection e with e; subst e; show q < _; omega) (by rintro ad e; injection e with e; subst e; exact hnq)).mono ?_
  rintro e w4 ⟨v4, rfl, hs4, ht4, hn4, hfr4⟩
  have hf4 := hfr4 q (by omega) hf3
  have hnq4 : ¬ far g bo bn v4 q := fun h => by
    rcases hn4.far _ h with h | h
    · exact hnq h
    · omega
  have o4 := (ht4.block q (by omega) hnq).trans o3
  have tB4 : Two w4 gB 43 (.slice A n cap) (.int .i64 (sc : Int)) := (ht4.block gB tB3.lt hnB).trans tB3
  have hr4 : RefAt w4 (farB g bo bn v4 q) A n L := hr3.turn (ht4.wide (fun i hi => .inl hi)) (fun i hi => by
    rcases hi with hi | hi
    · rcases hn4.far _ hi with h | h
      · exact .inl (.inl h)
      · exact .inr h
    · exact .inl (.inr hi))
  have hb4 := hb3.trans (hs3.turn_below ht4 (Nat.le_refl _))
  have k0 : w4.cell? ⟨q, 0, none⟩ = some (.int .u8 111) := by simp [World.cell?, o4]
  have k1 : w4.frozen? ⟨q, 0, none⟩ = false := by simp [World.frozen?, o4]
  have hq4 : q < w4.heap.size := by have := ht4.size; omega
  clear hfr4 hf3 o3 hs3 hr3 tB3 hb3 hrO ht4
  go_wp2_with fail
  obtain ⟨w5, hw5⟩ : ∃ y, w4.setCell ⟨q, 0, none⟩ (.int .u8 88) = y := ⟨_, rfl⟩
  have t5 : Turn (fun i => i = q) w4 w5 := by rw [← hw5]; exact one_turn _
  have hs5 := hs4.write hf4 hnq4 t5
  have hr5 : RefAt w5 (farB g bo bn v4 q) A n L := hr4.turn (t5.wide (fun i hi => .inr hi)) (fun i hi => .inl hi)
  have tB5 : Two w5 gB 43 (.slice A n cap) (.int .i64 (sc : Int)) := (t5.block gB tB4.lt (by show ¬ gB = q; omega)).trans tB4
  have hb5 := hb4.trans (t5.below (B := w.heap.size) hb4.size (fun i hi => by omega))
  have hq5 : q < w5.heap.size := by have := t5.size; omega
  rw [hw5]
  clear hs4 hr4 tB4 hb4 t5 k0 k1 hw5
  refine (get_some w.heap.size g bo bn sy 9 v4 (L ++ [.obj S.own]) x [111, 119, 110, 32, 98, 121, 116, 101, 115] HG1.out rfl _ hs5).mono ?_
  rintro e w6 ⟨A6, c6, rfl, hc6, hown6, hd6⟩
  have hcv6 := conv_string w6 A6 9 c6 [111, 119, 110, 32, 98, 121, 116, 101, 115] rfl (Reads.of_own hown6)
  obtain ⟨ga, da, rfl, hga1, hga2, ca, fa⟩ := own_cell hown6 (k := 1) (by omega)
  have hc6' : (1 : Int) < (c6 : Int) := by omega
  have hc6'' : 1 < c6 := by omega
  clear hown6
  go_wp2_with fail
  obtain ⟨w7, hw7⟩ : ∃ y, w6.setCell ⟨ga, 1, none⟩ (.int .u8 89) = y := ⟨_, rfl⟩
  have d7 : Below w5.heap.size w5 w7 := by rw [← hw7]; exact hd6.trans (below_one _ hd6.size hga1)
  have hs7 := hs5.later d7
  have hr7 := hr5.later d7
  have tB7 := tB5.below d7
  have hb7 := blater hb5 (Nat.le_refl _) d7
  have hq7 : q < w7.heap.size := by have := d7.size; omega
  rw [hw7]
  clear hs5 hr5 tB5 hb5 d7 hd6 hcv6 ca fa hw7
  obtain ⟨nl, hnl⟩ : ∃ k, (S.log (L ++ [.obj S.own])).length = k := ⟨_, rfl⟩
  have hnl0 : 0 < nl := by
    rw [← hnl, S.log_snoc, List.length_append]
    unfold S.frame
    simp only [List.length_append, S.le8_len]
    omega
  have hsyl := hs7.sync
  rw [hnl] at hsyl
  obtain ⟨m, hm⟩ : ∃ m : Nat, (m : Int) = sy + max 0 (min 1000000 ((nl : Int) - sy)) := ⟨((sy : Int) + max 0 (min 1000000 ((nl : Int) - sy))).toNat, by omega⟩
  have hm0 : 0 < m := by omega
  have HNL := Lib.hid hnl
  have HM := Lib.hid hm
  clear hnl hm
  refine (sbytes_any w.heap.size g bo bn sy nl v4 _ HNL.out _ hs7).mono ?_
  rintro e w8 ⟨A8, c8, rfl, hc8, hown8, hd8⟩
  have hs8 := hs7.later hd8
  go_wp2_with fail
  refine (crash_any w.heap.size g bo bn sy nl m 1000000 (by omega) (by omega) v4 _ HNL.out HM.out _ hs8).mono ?_
  rintro e w9 ⟨A9, c9, rfl, hc9, hown9, hd9⟩
  obtain ⟨gl, dl, rfl, hgl1, hgl2, cl, fl⟩ := own_cell (own_below hown8 hd9) (k := 0) hnl0
  obtain ⟨gp, dp, rfl, hgp1, hgp2, cp, fp⟩ := own_cell hown9 (k := 0) hm0
  have d9 := blater hd8 (Nat.le_refl _) hd9
  have hl0 : ((nl : Int) == 0) = false := by rw [beq_eq_false_iff_ne]; omega
  have hl1 : ((m : Int) == 0) = false := by rw [beq_eq_false_iff_ne]; omega
  have hl2 : (0 : Int) < (c8 : Int) := by omega
  have hl3 : (0 : Int) < (c9 : Int) := by omega
  have hl4 : 0 < c8 := by omega
  have hl5 : 0 < c9 := by omega
  have hglw := (own_from hown8 gl rfl).2
  have cp' : ∀ u, (w9.setCell ⟨gl, 0, none⟩ u).cell? ⟨gp, 0, none⟩ = some (.int .u8 (dp.toNat : Int)) := fun u => ((one_turn u).cell cp (by show ¬ gp = gl; omega))
  have fp' : ∀ u, (w9.setCell ⟨gl, 0, none⟩ u).frozen? ⟨gp, 0, none⟩ = false := fun u => by
    have : (w9.setCell ⟨gl, 0, none⟩ u).heap[gp]? = w9.heap[gp]? := (one_turn (w := w9) (g := gl) (k := 0) u).block gp hgp2 (by show ¬ gp = gl; omega)
    have h2 := fp
    unfold World.frozen? at h2 ⊢
    rw [this]; exact h2
  go_wp2_with fail
  obtain ⟨w11, hw11⟩ : ∃ y, (w9.setCell ⟨gl, 0, none⟩ (.int .u8 (bits .xor .u8 (dl.toNat : Int) 1))).setCell ⟨gp, 0, none⟩ (.int .u8 (bits .xor .u8 (dp.toNat : Int) 1)) = y := ⟨_, rfl⟩
  have d11 : Below w7.heap.size w7 w11 := by
    rw [← hw11]
    exact (d9.trans (below_one _ d9.size hgl1)).trans (below_one _ (by have := d9.size; simp [World.setCell]; omega) (by have := hd8.size; omega))
  have hs11 := hs7.later d11
  have hr11 := hr7.later d11
  have tB11 := tB7.below d11
  have hb11 := blater hb7 (Nat.le_refl _) d11
  rw [hw11]
  clear hs7 hr7 tB7 hb7 hw11 cp' fp' cl fl cp fp hown8 hown9 hs8 hd8 hd9 d9
  refine (get_some w.heap.size g bo bn sy 9 v4 (L ++ [.obj S.own]) x [111, 119, 110, 32, 98, 121, 116, 101, 115] HG1.out rfl _ hs11).mono ?_
  rintro e w12 ⟨A12, c12, rfl, hc12, hown12, hd12⟩
  have hs12 := hs11.later hd12
  have hr12 := hr11.later hd12
  have tB12 := tB11.below hd12
  have hb12 := blater hb11 (Nat.le_refl _) hd12
  have hq12 : q < w12.heap.size := by have := d11.size; have := hd12.size; omega
  have hr12o := Reads.of_own hown12
  clear hs11 hr11 tB11 hb11 d11
  have b0 := tB12.cell0
  have b1 := tB12.cell1
  have hcv := Lib.run_convert_bytes_const (P := Try.prog) w12 22 5 #[.int .u8 111, .int .u8 119, .int .u8 110, .int .u8 32, .int .u8 98, .int .u8 121, .int .u8 116, .int .u8 101, .int .u8 115] 9 9 Try.underlying22 Try.underlying5
  go_wp2_with fail
  have d13 : Below w12.heap.size w12 (w12.alloc (.cells #[.int .u8 111, .int .u8 119, .int .u8 110, .int .u8 32, .int .u8 98, .int .u8 121, .int .u8 116, .int .u8 101, .int .u8 115] 5 (9, 10))) := (Below.refl _ _).alloc (Nat.le_refl _) _
  have hrO := Reads.newM w12 [.int .u8 111, .int .u8 119, .int .u8 110, .int .u8 32, .int .u8 98, .int .u8 121, .int .u8 116, .int .u8 101, .int .u8 115] 5 9 (9, 10) rfl
  have hput : S.put L S.own = (L ++ [.obj S.own], x, 0) := by rw [HGF.out.2.put_own, HX.out]
  have HP := Lib.hid hput
  have hln := hr12.1
  have hr13 := hr12.later d13
  clear hput hcv
  refine (refPut_any (farB g bo bn v4 q) A n cap L (sc : Int) _ 9 9 S.own rfl (by omega) _ _ _ HP.out (by omega) hnc _ hr13 hrO (by
    rintro ad e; injection e with e; subst e
    refine ⟨by show w12.heap.size < _; simp, fun h => ?_⟩
    rcases h with h | h
    · exact absurd (hs12.far_lt _ h) (Nat.lt_irrefl _)
    · have : w12.heap.size = q := h
      omega) (by
    intro i hi
    rcases hi with hi | hi
    · have := hs12.far_lt _ hi; simp; omega
    · subst hi; simp; omega)).mono ?_
  rintro e w14 ⟨A14, n14, c14, rfl, hnc14, hr14, hd14⟩
  have d14 := d13.trans (hd14.mono (by simp))
  have hs14 := hs12.later d14
  have hb14 := blater hb12 (Nat.le_refl _) d14
  have hro14 := hr12o.later d14
  have hln14 := hr14.1
  rw [List.length_append] at hln14
  have hln14 : L.length + 1 = n14 := hln14
  have d15 : Below w14.heap.size w14 (w14.alloc (.cells #[.slice A14 n14 c14, .int .i64 (sc : Int)] 43)) := (Below.refl _ _).alloc (Nat.le_refl _) _
  have tB15 := Two.new w14 43 (.slice A14 n14 c14) (.int .i64 (sc : Int))
  have e0 := tB15.cell0
  have e1 := tB15.cell1
  have hs15 := hs14.later d15
  have hr15 := hr14.later d15
  have hb15 := blater hb14 (Nat.le_refl _) d15
  have hcv15 := conv_string _ A12 9 c12 [111, 119, 110, 32, 98, 121, 116, 101, 115] rfl (hro14.later d15)
  have hsy' := HSY.out
  have hsy15 : (S.log (List.take sc (L ++ [S.R.obj S.own]))).length = sy := by rw [List.take_append_of_le_length (by omega)]; exact hsy'
  have HS15 := Lib.hid hsy15
  clear hsy' hsy15 hr12o hro14 hs12 hr12 tB12 hb12 b0 b1 d13 hrO hr13 hd14 d14 hs14 hr14 hb14 d15 tB15 hown12 hd12
  go_wp2_with fail
  refine (same_any w.heap.size g bo bn sy v4 (L ++ [.obj S.own]) (farB g bo bn v4 q) A14 n14 c14 sc (by omega) HS15.out (by omega) hnc14 _ hs15 hr15).mono ?_
  rintro e w16 ⟨rfl, hd16⟩
  have hb16 := blater hb15 (Nat.le_refl _) hd16
  go_wp2_with fail
  refine (lives_any _).mono ?_
  rintro e w17 ⟨rfl, hd17⟩
  have hb17 := blater hb16 (Nat.le_refl _) hd17
  go_wp2_with fail
  go_ret
  exact ⟨rfl, hb17⟩
end Go.Proofs.Ytfanhbemmjcomaa
