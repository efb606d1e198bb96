/- Store.Bind. Store.Crash; Put and Bind in one statement each. -/
import Derived.Test.YtfanhbemmjcomaaStPut3
namespace Go.Proofs.Ytfanhbemmjcomaa
open Go.RowKit
set_option linter.unusedVariables false

theorem bind_step {w w3 w5 : World} {base g bo bn sy : Nat} {v v' : Value} {L : List S.R} {x k : UInt64} (h : StAt w base g bo bn v L sy) (hl : Logged w w3 base g bo bn v v' L (S.frame (S.payload (.bind x k))) sy) (hfew : L.length < 200)
    (hm : MapAt w5 bn (L.length + 1) (fun y => if x = y then some (.int .u64 (k.toNat : Int)) else (S.look L y).map fun j => .int .u64 (j.toNat : Int))) (hg : w3.grownBy w5 (some bn)) :
    StAt w5 base g bo bn v' (L ++ [.bind x k]) sy ∧ Turn (far g bo bn v) w w5 := by
  have t5 : Turn (far g bo bn v') w3 w5 := Turn.of_grown hg (fun i e => .inl (.inr (.inr (.inl (by injection e with e; exact e.symm)))))
  have tt : Turn (far g bo bn v) w w5 := hl.turn.trans t5 (fun i hi => hl.newer.far i hi)
  have hrow5 := hl.row.kept hg (.inr (fun e => hl.names.not_row hl.row e.symm))
  have hlog : S.log (L ++ [.bind x k]) = S.log L ++ S.frame (S.payload (.bind x k)) := S.log_snoc _ _
  have hlen : (L ++ [S.R.bind x k]).length = L.length + 1 := by simp
  obtain ⟨f, hf, hfx⟩ := hl.objs
  have hne : some bo ≠ some bn := fun e => h.hne (by injection e)
  refine ⟨⟨h.hg, h.hbo, h.hbn, h.hne, Nat.le_trans h.hbase tt.size, hl.four.block (hg.block g hl.four.lt (fun e => hl.names.not_four hl.four e.symm)), by rw [hlog]; exact hrow5, ?_, ?_, ?_, ?_, by simp; omega⟩, tt⟩
  · rw [hlen]
    have h1 := hf.kept hg hne
    have h2 : MapAt w5 bo (L.length + 1) f := by
      obtain ⟨D, h3, h4⟩ := h1
      exact ⟨D, h3.mono (by omega), h4⟩
    refine ⟨f, h2, fun y => ?_⟩
    rw [S.get_snoc_bind]
    refine ⟨(hfx y).1, fun b e => ?_⟩
    obtain ⟨u, h3, h4⟩ := (hfx y).2 b e
    exact ⟨u, h3, h4.turn t5 (fun i hi => .inl hi)⟩
  · rw [hlen]
    exact hm.congr fun y => by
      rw [S.look_snoc_bind]
      by_cases hxy : x = y
      · rw [if_pos hxy, if_pos hxy]; rfl
      · rw [if_neg hxy, if_neg hxy]
  · rw [hlog, List.length_append]; have := h.sync; omega
  · intro b hb
    rcases List.mem_append.1 hb with hb | hb
    · exact h.small b hb
    · simp at hb

theorem bind_none (base g bo bn sy : Nat) (v : Value) (L : List S.R) (x k : UInt64) (hget : S.get L k = none) (w : World) (h : StAt w base g bo bn v L sy) :
    Calls Try.prog 13 #[.pointer (some ⟨g, 0, none⟩), .int .u64 (x.toNat : Int), .int .u64 (k.toNat : Int)] w fun e w' => e = .returned (.int .i64 3) ∧ w = w' := by
  have hc2 := h.four.cell2
  obtain ⟨f, hf, hfx⟩ := h.objs
  have hlk := hf.look_none Try.underlying73 (zeroSl w) ((hfx k).1 hget)
  clear h hf hfx hget
  go_enter Try.func13, Try.ntmps13
  go_wp2_with fail
  go_ret
  exact ⟨rfl, rfl⟩
theorem bind_same (base g bo bn sy : Nat) (v : Value) (L : List S.R) (x k : UInt64) (b : List UInt8) (hget : S.get L k = some b) (hlook : S.look L x = some k) (w : World) (h : StAt w base g bo bn v L sy) :
    Calls Try.prog 13 #[.pointer (some ⟨g, 0, none⟩), .int .u64 (x.toNat : Int), .int .u64 (k.toNat : Int)] w fun e w' => e = .returned (.int .i64 0) ∧ w = w' := by
  have hc2 := h.four.cell2
  have hc3 := h.four.cell3
  obtain ⟨f, hf, hfx⟩ := h.objs
  obtain ⟨u, hu, _⟩ := (hfx k).2 b hget
  have hlk := hf.look_some Try.underlying73 (zeroSl w) hu
  have hlk2 := h.names.look_some Try.underlying74 (zeroU64 w) (x := x) (v := .int .u64 (k.toNat : Int)) (by show (S.look L x).map _ = _; rw [hlook]; rfl)
  clear h hf hfx hget hlook hu
  go_enter Try.func13, Try.ntmps13
  go_wp2_with fail
  go_ret
  exact ⟨rfl, rfl⟩

set_option maxRecDepth 10000 in
set_option maxHeartbeats 4000000 in
theorem bind_new (base g bo bn sy : Nat) (v : Value) (L : List S.R) (x k : UInt64) (b : List UInt8) (hget : S.get L k = some b) (hlook : S.look L x ≠ some k) (hfew : L.length < 200) (w : World) (h : StAt w base g bo bn v L sy) :
    Calls Try.prog 13 #[.pointer (some ⟨g, 0, none⟩), .int .u64 (x.toNat : Int), .int .u64 (k.toNat : Int)] w fun e w' => ∃ v', e = .returned (.int .i64 0) ∧ StAt w' base g bo bn v' (L ++ [.bind x k]) sy ∧ Turn (far g bo bn v) w w' ∧ Newer w v v' := by
  obtain ⟨i0, hi, hz0, hz1, hz2⟩ := info_parts infoByte
  have HS := Lib.hid h
  obtain ⟨n, hn⟩ : ∃ n, (S.log L).length = n := ⟨_, rfl⟩
  have hnl := h.len
  rw [hn] at hnl
  have HN := Lib.hid hn
  obtain ⟨pl, hpl⟩ : ∃ pl, S.payload (.bind x k) = pl := ⟨_, rfl⟩
  obtain ⟨kp, hkp⟩ : ∃ k, pl.length = k := ⟨_, rfl⟩
  obtain ⟨fr, hfr⟩ : ∃ fr, S.frame pl = fr := ⟨_, rfl⟩
  obtain ⟨kf, hkf⟩ : ∃ k, fr.length = k := ⟨_, rfl⟩
  have hkp' : kp ≤ 30 := by have := S.payload_len (.bind x k); rw [hpl, hkp] at this; exact this
  have hkf' : kf ≤ 65700 := by have := S.frame_len pl; rw [hfr, hkf, hkp] at this; omega
  have HPL := Lib.hid hpl
  have HKP := Lib.hid hkp
  have HFR := Lib.hid hfr
  have HKF := Lib.hid hkf
  have hbase := h.hbase
  have hrow := h.row
  rw [hn] at hrow
  obtain ⟨A0, c0, rfl, _, _, _⟩ := own_reads hrow
  have hc2 := h.four.cell2
  have hc3 := h.four.cell3
  obtain ⟨f, hf, hfx⟩ := h.objs
  obtain ⟨u, hu, _⟩ := (hfx k).2 b hget
  have hlk := hf.look_some Try.underlying73 (zeroSl w) hu
  have ho := OutAt.new w
  have hd0 : Below w.heap.size w (w.alloc (.cells #[.slice none 0 0] 32)) := (Below.refl _ _).alloc (Nat.le_refl _) _
  have hl1 : (V.enc 2).length ≤ 10 := (V.enc_len 2).2
  have hl2 : (V.enc x).length ≤ 10 := (V.enc_len x).2
  have hL1 : (V.enc 2 ++ V.enc x).length ≤ 20 := by rw [List.length_append]; omega
  have hnames := h.names
  have hlk2 : ∃ j bb, (Instr.lookup 74 (.map (some bn)) (.int .u64 (x.toNat : Int)) true).run Try.prog w = .ok (.tuple #[.int .u64 j, .bool bb]) w ∧ (bb = true → (j == (k.toNat : Int)) = false) := by
    cases hl : S.look L x with
    | none => exact ⟨0, false, hnames.look_none Try.underlying74 (zeroU64 w) (x := x) (by show (S.look L x).map _ = none; rw [hl]; rfl), fun e => (by cases e)⟩
    | some j =>
      refine ⟨_, true, hnames.look_some Try.underlying74 (zeroU64 w) (x := x) (v := .int .u64 (j.toNat : Int)) (by show (S.look L x).map _ = _; rw [hl]; rfl), fun _ => ?_⟩
      rw [beq_eq_false_iff_ne]
      intro e
      exact hlook (by rw [hl, UInt64.toNat_inj.1 (show j.toNat = k.toNat by omega)])
  clear h hget hlook hn hpl hkp hfr hkf hrow hf hfx hu hnames
  obtain ⟨j, bb, hlk2, hjb⟩ := hlk2
  cases bb
  all_goals
    first
      | (have hjk := hjb rfl; clear hjb)
      | clear hjb
    go_enter Try.func13, Try.ntmps13
    go_wp2_with fail
    refine (outUint_lit _ _ [] (V.enc 2) 2 2 rfl (by omega) (by simp) rfl _ ho).mono ?_
    rintro e w1 ⟨rfl, ho1, ht1⟩
    have hb1 := hd0.trans (ht1.below ho)
    go_wp2_with fail
    refine (outUint_any _ _ (V.enc 2) x (by omega) _ ho1).mono ?_
    rintro e w2 ⟨rfl, ho2, ht2⟩
    have hb2 := hb1.trans (ht2.below ho1)
    go_wp2_with fail
    refine (outUint_any _ _ (V.enc 2 ++ V.enc x) k (by omega) _ ho2).mono ?_
    rintro e w3 ⟨rfl, ho3, ht3⟩
    have hb3 := hb2.trans (ht3.below ho2)
    have ho3 : OutAt w3 w.heap.size w.heap.size pl := by rw [← HPL.out]; exact ho3
    have hbWd : Below w.heap.size w w3.drew := Below.drew hb3
    have ho3d : OutAt w3.drew w.heap.size w.heap.size pl := ho3.later (Below.drew (Below.refl w3.heap.size w3))
    clear ho ho1 ho2 ht1 ht2 ht3 hb1 hb2 hb3 hd0 hl1 hl2 hL1 hlk hlk2 hc2 hc3
    have cA := (HS.out.later hbWd).four.cell0
    go_wp2_with fail
    go_region_law (first
      | (refine step_append_any (by rfl) _ _ 22 (by rfl) base 5 i0 (.int .u8 0) 1 1 Try.underlying22 hi hz0 hz1 hz2 rfl (by omega) (.slice A0 n c0) n (bv (S.log L)) (by rfl) hownL wf.heap.size Af kf cf (bv fr) (by rfl) hrF (bv_one fr) (by unfold maxLen; omega) (by omega) hbwf ?_; intro A9 c9 w5 hown5 hgrow hat; have hlg := log_step (fr := fr) HS.out hbf HN.out HKF.out hgrow hown5 hat; have hfo5 := hSf.four.block (hgrow.block g hSf.four.lt (hSf.four.not_row (by decide) hSf.row)); have cD := hfo5.cell0; have fD := hfo5.frozen 0)
      | (go_simp; go_at_call 17; refine (done_reads _ _ kp pl HKP.out (by omega) _ ho3d).mono ?_; rintro e wd ⟨Ad, cd, rfl, hcd, hownd, hdd⟩; have hbd := blater hbWd (Nat.le_refl _) hdd; have cB := (HS.out.later hbd).four.cell0)
      | (go_simp; go_at_call 37; refine (frame_k Ad kp cd kf pl fr HKP.out HFR.out HKF.out (by omega) _ (Reads.of_own hownd)).mono ?_; rintro e wf ⟨Af, cf, rfl, hcf, hownf, hdf⟩; have hbf := blater hbd (Nat.le_refl _) hdf; have hSf := HS.out.later hbf; have cC := hSf.four.cell0; have hownL := hSf.row; rw [HN.out] at hownL; have hrF := Reads.of_own hownf; have hbwf := hSf.hbase))
    all_goals
      clear cA cB cC cD fD hownL hrF hfo5 hownf hdf hSf hownd hdd hbd hbf hbwf ho3d ho3 hown5 hgrow hat hbWd
      obtain ⟨w6, hw6⟩ : ∃ x, w5.setCell ⟨g, 0, none⟩ (.slice A9 (n + kf) c9) = x := ⟨_, rfl⟩
      rw [hw6] at hlg ⊢
      clear hw6
      have hlg : Logged w w6 base g bo bn (.slice A0 n c0) (.slice A9 (n + kf) c9) L fr sy := hlg
      have e3 := hlg.four.cell3
      have HLG := Lib.hid hlg
      obtain ⟨w8, hrun, hm8, hg8⟩ := hlg.names.put Try.underlying74 (by unfold maxLen; omega) x (.int .u64 (k.toNat : Int))
      have hfin := bind_step HS.out (x := x) (k := k) (by rw [HPL.out, HFR.out]; exact HLG.out) hfew hm8 hg8
      clear hlg hm8 hg8
      go_wp2_with fail
      go_ret
      exact ⟨_, rfl, hfin.1, hfin.2, HLG.out.newer⟩
end Go.Proofs.Ytfanhbemmjcomaa
namespace Go.Proofs.Ytfanhbemmjcomaa
open Go.RowKit
set_option linter.unusedVariables false

theorem put_any (base g bo bn sy : Nat) (v : Value) (L : List S.R) (A : Option Addr) (len cap : Nat) (bs : List UInt8) (hl : bs.length = len) (hfew : L.length < 200) (L' : List S.R) (k : UInt64) (er : Int) (hR : S.put L bs = (L', k, er)) (w : World) (h : StAt w base g bo bn v L sy) (hr : Reads w w.heap.size 1 A len (bv bs)) (hA : ∀ ad, A = some ad → ad.block < w.heap.size) (hAf : ∀ ad, A = some ad → ¬ far g bo bn v ad.block) :
    Calls Try.prog 12 #[.pointer (some ⟨g, 0, none⟩), .slice A len cap] w fun e w' => ∃ v', e = .returned (.tuple #[.int .u64 (k.toNat : Int), .int .i64 er]) ∧ StAt w' base g bo bn v' L' sy ∧ Turn (far g bo bn v) w w' ∧ Newer w v v' := by
  unfold S.put at hR
  by_cases hlim : 65536 < bs.length
  · rw [if_pos hlim] at hR
    injection hR with h1 h2; injection h2 with h2 h3
    subst h1 h2 h3
    refine (put_limit base g bo bn sy v L A len cap bs hl (by omega) w).mono ?_
    rintro e w' ⟨rfl, rfl⟩
    exact ⟨v, rfl, h, Turn.refl _ _, Newer.refl _ _⟩
  · rw [if_neg hlim] at hR
    cases hg : S.get L (S.key bs) with
    | none =>
      rw [hg] at hR
      injection hR with h1 h2; injection h2 with h2 h3
      subst h1 h2 h3
      exact put_new base g bo bn sy v L A len cap bs _ hl (by omega) rfl hg hfew w h hr hA hAf
    | some c =>
      rw [hg] at hR
      have hR' : L = L' ∧ (if c = bs then (S.key bs, (0 : Int)) else (0, 4)) = (k, er) := by
        by_cases hc : c = bs
        · simp only [if_pos hc] at hR ⊢
          injection hR with h1 h2; exact ⟨h1, h2⟩
        · simp only [if_neg hc] at hR ⊢
          injection hR with h1 h2; exact ⟨h1, h2⟩
      obtain ⟨rfl, hk⟩ := hR'
      refine (put_there base g bo bn sy v L A len cap bs c _ hl (by omega) rfl hg w h hr k er hk).mono ?_
      rintro e w' ⟨rfl, hb⟩
      exact ⟨v, rfl, h.later hb, Turn.of_below _ hb, Newer.refl _ _⟩
theorem bind_any (base g bo bn sy : Nat) (v : Value) (L : List S.R) (x k : UInt64) (hfew : L.length < 200) (L' : List S.R) (er : Int) (hR : S.bind L x k = (L', er)) (w : World) (h : StAt w base g bo bn v L sy) :
    Calls Try.prog 13 #[.pointer (some ⟨g, 0, none⟩), .int .u64 (x.toNat : Int), .int .u64 (k.toNat : Int)] w fun e w' => ∃ v', e = .returned (.int .i64 er) ∧ StAt w' base g bo bn v' L' sy ∧ Turn (far g bo bn v) w w' ∧ Newer w v v' := by
  unfold S.bind at hR
  cases hg : S.get L k with
  | none =>
    rw [hg] at hR
    injection hR with h1 h2
    subst h1 h2
    refine (bind_none base g bo bn sy v L x k hg w h).mono ?_
    rintro e w' ⟨rfl, rfl⟩
    exact ⟨v, rfl, h, Turn.refl _ _, Newer.refl _ _⟩
  | some c =>
    rw [hg] at hR
    by_cases hl : S.look L x = some k
    · simp only [if_pos hl] at hR
      injection hR with h1 h2
      subst h1 h2
      refine (bind_same base g bo bn sy v L x k c hg hl w h).mono ?_
      rintro e w' ⟨rfl, rfl⟩
      exact ⟨v, rfl, h, Turn.refl _ _, Newer.refl _ _⟩
    · simp only [if_neg hl] at hR
      injection hR with h1 h2
      subst h1 h2
      exact bind_new base g bo bn sy v L x k c hg hl hfew w h

set_option maxRecDepth 10000 in
set_option maxHeartbeats 2000000 in
theorem crash_any (base g bo bn sy n m : Nat) (left : Int) (hl1 : -9223372036854775808 ≤ left) (hl2 : left ≤ 9223372036854775807) (v : Value) (L : List S.R) (hn : (S.log L).length = n) (hm : (m : Int) = sy + max 0 (min left ((n : Int) - sy))) (w : World) (h : StAt w base g bo bn v L sy) :
    Calls Try.prog 30 #[.pointer (some ⟨g, 0, none⟩), .int .i64 left] w fun e w' => ∃ A c, e = .returned (.slice A m c) ∧ m ≤ c ∧ w'.ownsRow w.heap.size 5 1 (.slice A m c) m (bv ((S.log L).take m)) ∧ Below w.heap.size w w' := by
  have hl := h.len
  rw [hn] at hl
  have hc0 := h.four.cell0
  have hc1 := h.four.cell1
  have hrow := h.row
  rw [hn] at hrow
  have hsy := h.sync
  rw [hn] at hsy
  obtain ⟨A, c, rfl, hc, hr, _⟩ := own_reads hrow
  have hcap := own_cap hrow
  have hmn : m ≤ n := by omega
  have htk := hr.take hmn
  rw [← few_take] at htk
  have hrd : Reads w.drew w.drew.heap.size 1 A m (bv ((S.log L).take m)) := htk
  clear h hrow hn hr htk
  obtain ⟨bs, hbs⟩ : ∃ bs, (S.log L).take m = bs := ⟨_, rfl⟩
  rw [hbs] at hrd ⊢
  clear hbs
  have hd0 : w.drew.cell? ⟨g, 0, none⟩ = some (.slice A n c) := hc0
  have hd1 : w.drew.cell? ⟨g, 1, none⟩ = some (.int .i64 (sy : Int)) := hc1
  have hw1 : IntKind.i64.wrap ((n : Int) - (sy : Int)) = (n : Int) - (sy : Int) := by rw [IntKind.wrap_i64]; omega
  have hcases : (left ≤ 0 ∧ sy = m) ∨ (∃ l : Nat, left = (l : Int) ∧ 0 < l ∧ sy + l ≤ n ∧ sy + l = m) ∨ ((n : Int) - (sy : Int) < left ∧ sy < n ∧ n = m) ∨ ((n : Int) - (sy : Int) < left ∧ n ≤ sy ∧ sy = m) := by
    by_cases h1 : left ≤ 0
    · exact .inl ⟨h1, by omega⟩
    · by_cases h2 : left ≤ (n : Int) - (sy : Int)
      · obtain ⟨l, rfl⟩ := Int.eq_ofNat_of_zero_le (show 0 ≤ left by omega)
        exact .inr (.inl ⟨l, rfl, by omega, by omega, by omega⟩)
      · by_cases h3 : sy < n
        · exact .inr (.inr (.inl ⟨by omega, h3, by omega⟩))
        · exact .inr (.inr (.inr ⟨by omega, by omega, by omega⟩))
  clear hm
  have hw4 : IntKind.i64.wrap (sy : Int) = (sy : Int) := by rw [IntKind.wrap_i64]; omega
  rcases hcases with ⟨h1, rfl⟩ | ⟨l, rfl, h0, h1, rfl⟩ | ⟨h1, h0, rfl⟩ | ⟨h1, h0, rfl⟩
  · have hq1 : ¬ ((n : Int) - (sy : Int) < left) := by omega
    have hq2 : ¬ (0 < left) := by omega
    have hz : (0 : Int) ≤ (sy : Int) := by omega
    have hz2 : (sy : Int) ≤ (c : Int) := by omega
    have hz5 : sy ≤ c := by omega
    go_enter Try.func30, Try.ntmps30
    go_wp2_with fail
    have hq1 : ((n : Int) - (sy : Int) < left) = False := eq_false (by omega)
    have hq2 : ((0 : Int) < left) = False := eq_false (by omega)
    go_region_held3 (fun w' => w'.cell? ⟨g, 0, none⟩ = some (.slice A n c) ∧ w'.cell? ⟨g, 1, none⟩ = some (.int .i64 (sy : Int)))
      (first | exact ⟨hd0, hd1⟩ | assumption)
      (first
        | (go_at_call 38; refine (clone_any A sy c bs (by omega) _ _ (Nat.le_refl _) hrd).mono ?_; rintro e w1 ⟨v, rfl, hown, hb⟩; have hS1 := And.intro ((hb.cell (p := ⟨g, 0, none⟩) (cell_lt hd0)).trans hd0) ((hb.cell (p := ⟨g, 1, none⟩) (cell_lt hd1)).trans hd1)))
    go_wp2_with fail
    go_ret
    obtain ⟨A', c', rfl, hc', _, hown'⟩ := own_reads hown
    exact ⟨A', c', rfl, hc', hown', blater (Below.drew (Below.refl _ _)) (Nat.le_refl _) hb⟩
  · have hq1 : ¬ ((n : Int) - (sy : Int) < (l : Int)) := by omega
    have hq2 : (0 : Int) < (l : Int) := by omega
    have hw2 : IntKind.i64.wrap ((sy : Int) + (l : Int)) = (sy : Int) + (l : Int) := by rw [IntKind.wrap_i64]; omega
    have hz : (0 : Int) ≤ (sy : Int) + (l : Int) := by omega
    have hz2 : (sy : Int) + (l : Int) ≤ (c : Int) := by omega
    have hz5 : sy + l ≤ c := by omega
    have hz3 : ((sy : Int) + (l : Int)).toNat = sy + l := by omega
    go_enter Try.func30, Try.ntmps30
    go_wp2_with fail
    have hq1 : ((n : Int) - (sy : Int) < (l : Int)) = False := eq_false (by omega)
    go_region_held3 (fun w' => w'.cell? ⟨g, 0, none⟩ = some (.slice A n c) ∧ w'.cell? ⟨g, 1, none⟩ = some (.int .i64 (sy : Int)))
      (first | exact ⟨hd0, hd1⟩ | assumption)
      (first
        | (go_at_call 38; refine (clone_any A (sy + l) c bs (by omega) _ _ (Nat.le_refl _) hrd).mono ?_; rintro e w1 ⟨v, rfl, hown, hb⟩; have hS1 := And.intro ((hb.cell (p := ⟨g, 0, none⟩) (cell_lt hd0)).trans hd0) ((hb.cell (p := ⟨g, 1, none⟩) (cell_lt hd1)).trans hd1)))
    go_wp2_with fail
    go_ret
    obtain ⟨A', c', rfl, hc', _, hown'⟩ := own_reads hown
    exact ⟨A', c', rfl, hc', hown', blater (Below.drew (Below.refl _ _)) (Nat.le_refl _) hb⟩
  · have hq2 : (0 : Int) < (n : Int) - (sy : Int) := by omega
    have hq3 : (sy : Int) < (n : Int) := by omega
    have hw3 : (sy : Int) + ((n : Int) - (sy : Int)) = (n : Int) := by omega
    have hw2 : IntKind.i64.wrap (n : Int) = (n : Int) := by rw [IntKind.wrap_i64]; omega
    have hw5 : IntKind.i64.wrap ((sy : Int) + ((n : Int) - (sy : Int))) = (n : Int) := by rw [hw3, hw2]
    have hz : (0 : Int) ≤ (n : Int) := by omega
    have hz2 : (n : Int) ≤ (c : Int) := by omega
    go_enter Try.func30, Try.ntmps30
    go_wp2_with fail
    go_region_held3 (fun w' => w'.cell? ⟨g, 0, none⟩ = some (.slice A n c) ∧ w'.cell? ⟨g, 1, none⟩ = some (.int .i64 (sy : Int)))
      (first | exact ⟨hd0, hd1⟩ | assumption)
      (first
        | (go_at_call 38; refine (clone_any A n c bs (by omega) _ _ (Nat.le_refl _) hrd).mono ?_; rintro e w1 ⟨v, rfl, hown, hb⟩; have hS1 := And.intro ((hb.cell (p := ⟨g, 0, none⟩) (cell_lt hd0)).trans hd0) ((hb.cell (p := ⟨g, 1, none⟩) (cell_lt hd1)).trans hd1)))
    go_wp2_with fail
    go_ret
    obtain ⟨A', c', rfl, hc', _, hown'⟩ := own_reads hown
    exact ⟨A', c', rfl, hc', hown', blater (Below.drew (Below.refl _ _)) (Nat.le_refl _) hb⟩
  · have hq2 : ¬ ((0 : Int) < (n : Int) - (sy : Int)) := by omega
    have hq3 : ¬ ((sy : Int) < (n : Int)) := by omega
    have hz : (0 : Int) ≤ (sy : Int) := by omega
    have hz2 : (sy : Int) ≤ (c : Int) := by omega
    have hz5 : sy ≤ c := by omega
    go_enter Try.func30, Try.ntmps30
    go_wp2_with fail
    have hq2 : ((0 : Int) < (n : Int) - (sy : Int)) = False := eq_false (by omega)
    have hq3 : ((sy : Int) < (n : Int)) = False := eq_false (by omega)
    have hq4 : (sy < n) = False := eq_false (by omega)
    go_region_held3 (fun w' => w'.cell? ⟨g, 0, none⟩ = some (.slice A n c) ∧ w'.cell? ⟨g, 1, none⟩ = some (.int .i64 (sy : Int)))
      (first | exact ⟨hd0, hd1⟩ | assumption)
      (first
        | (go_at_call 38; refine (clone_any A sy c bs (by omega) _ _ (Nat.le_refl _) hrd).mono ?_; rintro e w1 ⟨v, rfl, hown, hb⟩; have hS1 := And.intro ((hb.cell (p := ⟨g, 0, none⟩) (cell_lt hd0)).trans hd0) ((hb.cell (p := ⟨g, 1, none⟩) (cell_lt hd1)).trans hd1)))
    go_wp2_with fail
    go_ret
    obtain ⟨A', c', rfl, hc', _, hown'⟩ := own_reads hown
    exact ⟨A', c', rfl, hc', hown', blater (Below.drew (Below.refl _ _)) (Nat.le_refl _) hb⟩
end Go.Proofs.Ytfanhbemmjcomaa
