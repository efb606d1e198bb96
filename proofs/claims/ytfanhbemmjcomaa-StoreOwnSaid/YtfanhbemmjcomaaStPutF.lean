/- A block apart of all objects: what turns in it leaves the store as it was. Store.Put of what is new, walked once more: what is apart of all objects stays so. -/
import Derived.Test.YtfanhbemmjcomaaStBuilt
namespace Go.Proofs.Ytfanhbemmjcomaa
open Go.RowKit
set_option linter.unusedVariables false

theorem MapAt.det {w : World} {b n m : Nat} {f f' : UInt64 → Option Value} (h : MapAt w b n f) (h' : MapAt w b m f') (x : UInt64) : f x = f' x := by
  cases e : f x with
  | none =>
    cases e' : f' x with
    | none => rfl
    | some v' =>
      have h1 := h.look_none Try.underlying73 (zeroSl w) e
      have h2 := h'.look_some Try.underlying73 (zeroSl w) e'
      rw [h1] at h2; simp at h2
  | some v =>
    have h1 := h.look_some Try.underlying73 (zeroSl w) e
    cases e' : f' x with
    | none =>
      have h2 := h'.look_none Try.underlying73 (zeroSl w) e'
      rw [h1] at h2; simp at h2
    | some v' =>
      have h2 := h'.look_some Try.underlying73 (zeroSl w) e'
      rw [h1] at h2; simp at h2; rw [h2]
/-- Block q holds none of the map's objects. -/
def Free (W : World) (bo q : Nat) : Prop := ∃ f n, MapAt W bo n f ∧ ∀ x A k c ad, f x = some (.slice A k c) → A = some ad → ad.block ≠ q
theorem StAt.write {W W' : World} {base g bo bn sy q : Nat} {v : Value} {L : List S.R} (h : StAt W base g bo bn v L sy) (hq : Free W bo q) (hn : ¬ far g bo bn v q) (t : Turn (fun i => i = q) W W') : StAt W' base g bo bn v L sy := by
  have G : W.grownBy W' (some q) := ⟨t.os, t.tape, t.output, t.size, fun k hk hne => t.block k hk (fun e => hne (by rw [e]))⟩
  obtain ⟨f, hf, hfx⟩ := h.objs
  obtain ⟨f', n', hf', hfree⟩ := hq
  refine ⟨h.hg, h.hbo, h.hbn, h.hne, Nat.le_trans h.hbase t.size, h.four.block (t.block g h.four.lt (fun e => hn (.inl e.symm))), h.row.kept G (.inr (fun e => hn (.inr (.inr (.inr e))))), ⟨f, hf.block (t.block bo hf.lt (fun e => hn (.inr (.inl e.symm)))), fun x => ⟨(hfx x).1, fun bs e => ?_⟩⟩, h.names.block (t.block bn h.names.lt (fun e => hn (.inr (.inr (.inl e.symm))))), h.sync, h.small, h.few⟩
  obtain ⟨u, h1, A, c, h2, h3, h4, h5, h6⟩ := (hfx x).2 bs e
  refine ⟨u, h1, A, c, h2, h3, h4, ⟨h5.1, fun hn => ?_⟩, fun ad e => ⟨(h6 ad e).1, Nat.lt_of_lt_of_le (h6 ad e).2.1 t.size, (h6 ad e).2.2⟩⟩
  obtain ⟨ad, e, hlt, hc⟩ := h5.2 hn
  have hne : ad.block ≠ q := hfree x A bs.length c ad (by rw [← hf.det hf' x, h1, h2]) e
  refine ⟨ad, e, Nat.lt_of_lt_of_le hlt t.size, fun j u hu => ?_⟩
  rw [← hc j u hu]
  refine World.cell?_of_block ?_
  rw [block_of_add]
  exact t.block _ hlt hne
end Go.Proofs.Ytfanhbemmjcomaa
namespace Go.Proofs.Ytfanhbemmjcomaa
open Go.RowKit
set_option linter.unusedVariables false

theorem log_bo {w W w2 : World} {base g bo bn sy : Nat} {v v' : Value} {L : List S.R} (h : StAt w base g bo bn v L sy) (hW : Below w.heap.size w W) (hgrow : W.grownBy w2 v.ownBlock) : (w2.setCell ⟨g, 0, none⟩ v').heap[bo]? = w.heap[bo]? := by
  have hL := h.later hW
  obtain ⟨f, hf, _⟩ := id hL.objs
  have hs : w2.grownBy (w2.setCell ⟨g, 0, none⟩ v') (some g) := set1_grown w2 ⟨g, 0, none⟩ v'
  have hlt := hf.lt
  rw [hs.block bo (by have := hgrow.size; omega) (hf.not_four hL.four), hgrow.block bo hlt (hf.not_row hL.row)]
  obtain ⟨f0, hf0, _⟩ := h.objs
  exact hW.block bo hf0.lt
set_option maxRecDepth 10000 in
set_option maxHeartbeats 4000000 in
theorem put_newF (base g bo bn sy : Nat) (v : Value) (L : List S.R) (A : Option Addr) (len cap : Nat) (bs : List UInt8) (x : UInt64) (hl : bs.length = len) (hlim : len ≤ 65536) (hx : S.key bs = x) (hget : S.get L x = none) (hfew : L.length < 200) (w : World) (h : StAt w base g bo bn v L sy) (hr : Reads w w.heap.size 1 A len (bv bs)) (hA : ∀ ad, A = some ad → ad.block < w.heap.size) (hAf : ∀ ad, A = some ad → ¬ far g bo bn v ad.block) :
    Calls Try.prog 12 #[.pointer (some ⟨g, 0, none⟩), .slice A len cap] w fun e w' => ∃ v', e = .returned (.tuple #[.int .u64 (x.toNat : Int), .int .i64 0]) ∧ StAt w' base g bo bn v' (L ++ [.obj bs]) sy ∧ Turn (far g bo bn v) w w' ∧ Newer w v v' ∧ ∀ q, q < w.heap.size → Free w bo q → Free w' bo q := by
  obtain ⟨i0, hi, hz0, hz1, hz2⟩ := info_parts infoByte
  have HX := Lib.hid hx
  have HL := Lib.hid hl
  have h1 : (len : Int) ≤ (65536 : Int) := by omega
  have HS := Lib.hid h
  have HG := Lib.hid hget
  have HA := Lib.hid hA
  have HAF := Lib.hid hAf
  obtain ⟨n, hn⟩ : ∃ n, (S.log L).length = n := ⟨_, rfl⟩
  have hnl := h.len
  rw [hn] at hnl
  have HN := Lib.hid hn
  obtain ⟨pl, hpl⟩ : ∃ pl, S.payload (.obj bs) = pl := ⟨_, rfl⟩
  obtain ⟨kp, hkp⟩ : ∃ k, pl.length = k := ⟨_, rfl⟩
  obtain ⟨fr, hfr⟩ : ∃ fr, S.frame pl = fr := ⟨_, rfl⟩
  obtain ⟨kf, hkf⟩ : ∃ k, fr.length = k := ⟨_, rfl⟩
  have hkp' : kp ≤ 65600 := by have := S.payload_len (.obj bs); rw [hpl, hkp] at this; simp only at this; omega
  have hkf' : kf ≤ 65700 := by have := S.frame_len pl; rw [hfr, hkf, hkp] at this; omega
  have HPL := Lib.hid hpl
  have HKP := Lib.hid hkp
  have HFR := Lib.hid hfr
  have HKF := Lib.hid hkf
  have hbase := h.hbase
  have hrow := h.row
  rw [hn] at hrow
  obtain ⟨A0, c0, rfl, _, _, _⟩ := own_reads hrow
  clear hrow
  clear hx hl h hget hn hpl hkp hfr hkf hA hAf
  go_enter Try.func12, Try.ntmps12
  go_wp2_with fail
  refine (hash_obj A len cap bs x HX.out HL.out (by omega) w hr).mono ?_
  rintro e w1 ⟨rfl, hb1⟩
  have hs1 := HS.out.later hb1
  have hc2 := hs1.four.cell2
  obtain ⟨f, hf, hfx⟩ := hs1.objs
  have hlk := hf.look_none Try.underlying73 (zeroSl w1) ((hfx x).1 HG.out)
  clear hf hfx hs1
  have hsz1 := hb1.size
  have ho := OutAt.new w1
  have hd0 : Below w1.heap.size w1 (w1.alloc (.cells #[.slice none 0 0] 32)) := (Below.refl _ _).alloc (Nat.le_refl _) _
  go_wp2_with fail
  refine (outUint_lit _ _ [] (V.enc 1) 1 1 rfl (by omega) (by simp) rfl _ ho).mono ?_
  rintro e w2 ⟨rfl, ho2, ht2⟩
  have hb2 := hd0.trans (ht2.below ho)
  have hl1 : (V.enc 1).length ≤ 10 := (V.enc_len 1).2
  clear hlk hc2
  go_wp2_with fail
  refine (outBytes_any _ _ (V.enc 1) A len cap bs HL.out (by omega) _ ho2 (hr.later (blater hb1 (Nat.le_refl _) hb2)) (far_below (n := 0) ho2 (fun ad e => by have := HA.out ad e; omega)) (fun ad e => by have := HA.out ad e; have := hb2.size; omega)).mono ?_
  rintro e w3 ⟨rfl, ho3, ht3⟩
  have ho3 : OutAt w3 w1.heap.size w1.heap.size pl := by
    have e1 : V.enc 1 ++ V.enc (UInt64.ofNat len) ++ bs = pl := by rw [← HPL.out]; show _ = V.enc 1 ++ (V.enc (UInt64.ofNat bs.length) ++ bs); rw [HL.out, List.append_assoc]
    rw [← e1]; exact ho3
  have hb3 := hb2.trans (ht3.below ho2)
  have hbW := blater hb1 (Nat.le_refl _) hb3
  have hbWd : Below w.heap.size w w3.drew := Below.drew hbW
  have ho3d : OutAt w3.drew w1.heap.size w1.heap.size pl := ho3.later (Below.drew (Below.refl w3.heap.size w3))
  clear ho ho2 ht2 ht3 hb2 hd0 hl1
  have cA := (HS.out.later hbWd).four.cell0
  go_wp2_with fail
  go_region_law (first
    | (refine step_append_any (by rfl) _ _ 22 (by rfl) base 5 i0 (.int .u8 0) 1 1 Try.underlying22 hi hz0 hz1 hz2 rfl (by omega) (.slice A0 n c0) n (bv (S.log L)) (by rfl) hownL wf.heap.size Af kf cf (bv fr) (by rfl) hrF (bv_one fr) (by unfold maxLen; omega) (by omega) hbwf ?_; intro A9 c9 w5 hown5 hgrow hat; have hlg := log_step (fr := fr) HS.out hbf HN.out HKF.out hgrow hown5 hat; have hbo6 := log_bo (v' := .slice A9 (n + kf) c9) HS.out hbf hgrow; have hfo5 := hSf.four.block (hgrow.block g hSf.four.lt (hSf.four.not_row (by decide) hSf.row)); have cD := hfo5.cell0; have fD := hfo5.frozen 0)
    | (go_simp; go_at_call 17; refine (done_reads _ _ kp pl HKP.out (by omega) _ ho3d).mono ?_; rintro e wd ⟨Ad, cd, rfl, hcd, hownd, hdd⟩; have hbd := blater hbWd (Nat.le_refl _) hdd; have cB := (HS.out.later hbd).four.cell0)
    | (go_simp; go_at_call 37; refine (frame_k Ad kp cd kf pl fr HKP.out HFR.out HKF.out (by omega) _ (Reads.of_own hownd)).mono ?_; rintro e wf ⟨Af, cf, rfl, hcf, hownf, hdf⟩; have hbf := blater hbd (Nat.le_refl _) hdf; have hSf := HS.out.later hbf; have cC := hSf.four.cell0; have hownL := hSf.row; rw [HN.out] at hownL; have hrF := Reads.of_own hownf; have hbwf := hSf.hbase))
  all_goals
    clear cA cB cC cD fD hownL hrF hfo5 hownf hdf hSf hownd hdd hbd hbf hbwf ho3d hbW hb3 hown5 hgrow hat hb1 hbWd
    obtain ⟨w6, hw6⟩ : ∃ x, w5.setCell ⟨g, 0, none⟩ (.slice A9 (n + kf) c9) = x := ⟨_, rfl⟩
    rw [hw6] at hlg hbo6 ⊢
    clear hw6
    have hlg : Logged w w6 base g bo bn (.slice A0 n c0) (.slice A9 (n + kf) c9) L fr sy := hlg
    have hr6 := hlg.turn.reads hr (Nat.le_refl _) HAF.out
    have hs6 := hlg.turn.size
    have e2 := hlg.four.cell2
    have hdr : Below w6.heap.size w6 w6.drew := Below.drew (Below.refl w6.heap.size w6)
    have hr6d : Reads w6.drew w.heap.size 1 A len (bv bs) := hr6
    have HLG := Lib.hid hlg
    clear hlg hr6 ho3
    go_wp2_with fail
    go_region_law (first
      | (go_simp; go_at_call 38; refine (clone_any A len cap bs (by omega) w.heap.size _ (by show w.heap.size ≤ w6.heap.size; omega) hr6d).mono ?_; rintro e w7 ⟨v7, rfl, hown7, hd7⟩; obtain ⟨A7, c7, rfl, hc7, _, hown7⟩ := own_reads hown7; have hb7 := hdr.trans hd7; have e27 := (HLG.out.four.below hb7).cell2; obtain ⟨f0, hf0, hfx0⟩ := HLG.out.objs; have hlt0 := hf0.lt; obtain ⟨f, hf, hfx⟩ := HLG.out.objs.turn (Turn.of_below _ hb7) (hb7.block bo hlt0) (fun i hi => .inl hi); obtain ⟨w8, hrun, hm8, hg8⟩ := hf.put Try.underlying73 (by unfold maxLen; omega) x (.slice A7 len c7); clear hf0 hfx0))
    all_goals
      have hfree : ∀ q, q < w.heap.size → Free w bo q → Free w8 bo q := fun q hq hfr => by
        obtain ⟨f', n', hf', hfr⟩ := hfr
        refine ⟨_, _, hm8, fun y A k c ad e e' eq => ?_⟩
        by_cases hxy : x = y
        · rw [if_pos hxy] at e
          injection e with e; injection e with e1 e2 e3
          subst e1
          have q1 := (own_from hown7 ad.block (by rw [e']; rfl)).1
          have q2 : w.heap.size ≤ w6.drew.heap.size := hs6
          omega
        · rw [if_neg hxy] at e
          have hb07 := (hb7.block bo hlt0).trans hbo6
          exact hfr y A k c ad (by rw [← e]; exact (hf.det (hf'.block hb07) y).symm) e' eq
      have HFREE := Lib.hid hfree
      clear hfree
      have hfin := put_step HS.out (bs := bs) (by rw [HPL.out, HFR.out]; exact HLG.out) hb7 hown7 HL.out hlim HX.out HG.out hfew hf hfx hm8 hg8
      clear hf hfx hm8 hg8 hrun e27 e2 hdr hr6d hb7 hown7 hd7
      go_wp2_with fail
      go_ret2
      exact ⟨_, rfl, hfin.1, hfin.2, HLG.out.newer, HFREE.out⟩
end Go.Proofs.Ytfanhbemmjcomaa
