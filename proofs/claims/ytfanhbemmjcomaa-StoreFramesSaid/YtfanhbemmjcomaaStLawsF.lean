/- The law StoreFrames, walked. -/
import Derived.Test.YtfanhbemmjcomaaStLives
import Derived.Deep.RegionWith
namespace Go.Proofs.Ytfanhbemmjcomaa
open Go.RowKit
set_option linter.unusedVariables false

theorem hash_frame (A : Option Addr) (len cap : Nat) (bs : List UInt8) (x : UInt64) (hx : S.crc bs = x) (hl : bs.length = len) (hlen : len ≤ 1000000) (w : World) (hrd : Reads w w.heap.size 1 A len (bv bs)) :
    Calls Try.prog 18 #[.string ⟨#[102, 114, 97, 109, 101]⟩, .slice A len cap] w fun e W' => e = .returned (.int .u64 (x.toNat : Int)) ∧ Below w.heap.size w W' := by
  subst hx
  exact bytes_any ⟨#[102, 114, 97, 109, 101]⟩ (by decide) A len cap bs hl hlen w hrd
set_option maxRecDepth 10000 in
set_option maxHeartbeats 1000000 in
theorem framed_any (A : Option Addr) (len cap kk : Nat) (bs fr : List UInt8) (hl : bs.length = len) (hf : S.frame bs = fr) (hk : fr.length = kk) (hlen : len ≤ 500000) (w : World) (hr : Reads w w.heap.size 1 A len (bv bs)) :
    Calls Try.prog 16 #[.slice A len cap] w fun e w' => ∃ A' c', e = .returned (.slice A' kk c') ∧ kk ≤ c' ∧ w'.ownsRow w.heap.size 5 1 (.slice A' kk c') kk (bv fr) ∧ Below w.heap.size w w' := by
  obtain ⟨i0, hi, hz0, hz1, hz2⟩ := info_parts infoByte
  have HL := Lib.hid hl
  have HF := Lib.hid hf
  have HK := Lib.hid hk
  have ho := OutAt.new w
  have hd0 : Below w.heap.size w (w.alloc (.cells #[.slice none 0 0] 32)) := (Below.refl _ _).alloc (Nat.le_refl _) _
  obtain ⟨x, hx⟩ : ∃ x, S.crc bs = x := ⟨_, rfl⟩
  have HX := Lib.hid hx
  have hone := bv_one bs
  clear hl hf hk hx
  go_enter Try.func16, Try.ntmps16
  go_wp2_with fail
  refine (outUint_nat _ _ [] len (by omega) (by simp) _ ho).mono ?_
  rintro e w1 ⟨rfl, ho1, ht1⟩
  have hb1 := hd0.trans (ht1.below ho)
  rw [List.nil_append] at ho1
  obtain ⟨E, hE⟩ : ∃ E, V.enc (UInt64.ofNat len) = E := ⟨_, rfl⟩
  have hEl : E.length ≤ 10 := by rw [← hE]; exact (V.enc_len _).2
  obtain ⟨ke, hke⟩ : ∃ k, E.length = k := ⟨_, rfl⟩
  rw [hE] at ho1
  rw [hke] at hEl
  have HE := Lib.hid hE
  have HKE := Lib.hid hke
  clear hE hke
  go_wp2_with fail
  refine (done_reads _ _ ke E HKE.out (by omega) _ ho1).mono ?_
  rintro e w2 ⟨A2, c2, rfl, hc2, hown2, hd2⟩
  have hb2 := blater hb1 (Nat.le_refl _) hd2
  have hown2 := own_mono hown2 hb1.size
  go_wp2_with fail
  refine (hash_frame A len cap bs x HX.out HL.out (by omega) _ (hr.later hb2)).mono ?_
  rintro e w3 ⟨rfl, hd3⟩
  have hb3 := blater hb2 (Nat.le_refl _) hd3
  have hown3 := own_below hown2 hd3
  clear hown2 hd3 hd2 ho1 ho ht1 hd0 hb1 hb2
  go_wp2_with fail
  go_loopw [4, 6] (fun v i wr => ∃ k : Nat, k ≤ 8 ∧ i = .int .i64 (k : Int) ∧ wr.ownsRow w.heap.size 5 1 v (ke + k) (bv (E ++ (S.le8 x).take k)) ∧ Below w.heap.size w wr) (fun _ i _ => 8 - (intOf i).toNat)
  case atStart => exact ⟨0, Nat.zero_le _, rfl, by simpa using hown3, hb3⟩
  case round =>
    obtain ⟨k, hk, rfl, hown, hb2⟩ := hrel
    clear hown3 hb3
    by_cases hlt : k < 8
    · have hi2 : (k : Int) < 8 := by omega
      have hi1 : (0 : Int) ≤ (k : Int) := by omega
      have hsh := S.byte_form x k
      have htk := S.le8_take x k hlt
      obtain ⟨c, hc⟩ : ∃ c, UInt8.ofNat (x.toNat / 256 ^ k) = c := ⟨_, rfl⟩
      rw [hc] at hsh htk
      have HTK := Lib.hid htk
      have hs2 := hb2.size
      clear hc htk
      go_wp2_with (at_builtin; refine wpList_append_any _ rfl _ _ 22 rfl w.heap.size 5 i0 (.int .u8 0) 1 1 Try.underlying22 hi hz0 hz1 hz2 rfl (by decide) _ _ _ rfl (hown.alloc _) _ _ 1 1 [.int .u8 (c.toNat : Int)] rfl (Reads.new wr [.int .u8 (c.toNat : Int)] 5 1 rfl) (by simp [Value.oneCell']) (by unfold maxLen; omega) (by omega) (by simp; omega) ?_; intro v' w2 hown' hgrow hat)
      go_roundw
      case rel => exact ⟨k + 1, by omega, by go_num, by rw [HTK.out, ← List.append_assoc, ← bv_snoc]; exact hown', (hb2.alloc hb2.size _).grown hgrow (by simp; omega) (fun k e => (own_from hown k e).1)⟩
      case measure => simp [intOf]; omega
    · have hk8 : k = 8 := by omega
      subst hk8
      rw [List.take_of_length_le (by rw [S.le8_len]; exact Nat.le_refl _)] at hown
      have hs2 := hb2.size
      have hr2 := hr.later hb2
      go_wp2_with (at_builtin; refine wpList_append_any _ rfl _ _ 22 rfl w.heap.size 5 i0 (.int .u8 0) 1 1 Try.underlying22 hi hz0 hz1 hz2 rfl (by decide) _ _ _ rfl hown wr.heap.size A len cap (bv bs) rfl hr2 hone (by unfold maxLen; omega) (by omega) (by omega) ?_; intro v' w4 hown' hgrow hat)
      go_ret
      have e1 : E ++ S.le8 x ++ bs = fr := by rw [← HF.out]; unfold S.frame; rw [HL.out, HE.out, HX.out]
      have e2 : ke + 8 + len = kk := by rw [← HK.out, ← e1]; simp only [List.length_append, S.le8_len, HKE.out, HL.out]
      rw [← bv_app, e1, e2] at hown'
      obtain ⟨A', c', rfl, hc', _, h'⟩ := own_reads hown'
      exact ⟨A', c', rfl, hc', h', hb2.grown hgrow hs2 (fun k e => (own_from hown k e).1)⟩

theorem S.put_first {fb : List UInt8} {x : UInt64} (hx : S.key fb = x) (h : fb.length ≤ 65536) : S.put [] fb = ([.obj fb], x, 0) := by
  subst hx
  unfold S.put
  rw [if_neg (by omega)]
  rfl
theorem S.look_one {fb : List UInt8} (nm : UInt64) : S.look [.obj fb] nm = none := by rw [S.look, S.look]
theorem S.bind_of (L : List S.R) (nm x : UInt64) (b : List UInt8) (p2 : S.get L x = some b) (p3 : S.look L nm = none) : S.bind L nm x = (L ++ [.bind nm x], 0) := by
  unfold S.bind
  rw [p2, p3]
  exact if_neg (by intro h; cases h)
theorem S.bind_first {fb : List UInt8} {x : UInt64} (hx : S.key fb = x) (nm : UInt64) : S.bind [.obj fb] nm x = ([.obj fb, .bind nm x], 0) := S.bind_of _ nm x fb (S.get_obj_pos [] hx) (S.look_one nm)
theorem S.log_two (r t : S.R) : S.log [r, t] = S.frame (S.payload r) ++ S.frame (S.payload t) := by
  rw [S.log_cons, S.log_cons, S.log_nil, List.append_nil]
set_option maxRecDepth 10000 in
set_option maxHeartbeats 8000000 in
theorem storeFrames_walk (a : Option Addr) (len cap : Nat) (zs : List Int) (name : Int) (w : World) (hr : IsRow .u8 w a len cap zs) (hname : (Lit.int .u64 name).wf = true) :
    Calls Try.prog 3 #[.slice a len cap, .int .u64 name] w fun e W' => e = .returned (.bool true) ∧ Below w.heap.size w W' := by
  obtain ⟨i0, hi, hz0, hz1, hz2⟩ := info_parts infoByte
  obtain ⟨raw, hrl, hlc, hcm, hrd⟩ := isRow_bytes hr
  obtain ⟨nm, rfl⟩ := wf_u64 hname
  obtain ⟨fb, hfb⟩ : ∃ x, raw.take 40 = x := ⟨_, rfl⟩
  obtain ⟨kr, hkr⟩ : ∃ k, fb.length = k := ⟨_, rfl⟩
  have hkr' : kr ≤ 40 := by rw [← hkr, ← hfb, List.length_take]; omega
  have hfew := fun W (h : Reads W W.heap.size 1 a len (bv raw)) => few_reads a len cap 40 raw kr hrl hlc hcm (by omega) (by rw [hfb]; exact hkr) W h
  simp only [hfb] at hfew
  have HKR := Lib.hid hkr
  have HFEW := Lib.hid (hfew _ hrd)
  obtain ⟨x, hx⟩ : ∃ x, S.key fb = x := ⟨_, rfl⟩
  have HX := Lib.hid hx
  have p1 := Lib.hid (S.put_first hx (by omega))
  have p3 := Lib.hid (S.bind_first hx nm)
  obtain ⟨lg, hlg⟩ : ∃ l, S.log [.obj fb, .bind nm x] = l := ⟨_, rfl⟩
  obtain ⟨kl, hkl⟩ : ∃ k, lg.length = k := ⟨_, rfl⟩
  obtain ⟨pa, hpa⟩ : ∃ l, S.payload (.obj fb) = l := ⟨_, rfl⟩
  obtain ⟨pb, hpb⟩ : ∃ l, S.payload (.bind nm x) = l := ⟨_, rfl⟩
  obtain ⟨ka, hka⟩ : ∃ k, pa.length = k := ⟨_, rfl⟩
  obtain ⟨kb, hkb⟩ : ∃ k, pb.length = k := ⟨_, rfl⟩
  obtain ⟨fa, hfa⟩ : ∃ l, S.frame pa = l := ⟨_, rfl⟩
  obtain ⟨fbb, hfbb⟩ : ∃ l, S.frame pb = l := ⟨_, rfl⟩
  obtain ⟨na, hna⟩ : ∃ k, fa.length = k := ⟨_, rfl⟩
  obtain ⟨nb, hnb⟩ : ∃ k, fbb.length = k := ⟨_, rfl⟩
  have hka' : ka ≤ 60 := by have := S.payload_len (.obj fb); rw [hpa, hka] at this; simp only at this; omega
  have hkb' : kb ≤ 30 := by have := S.payload_len (.bind nm x); rw [hpb, hkb] at this; exact this
  have hna' : na ≤ 100 := by have := S.frame_len pa; rw [hfa, hna, hka] at this; omega
  have hnb' : nb ≤ 100 := by have := S.frame_len pb; rw [hfbb, hnb, hkb] at this; omega
  have hlgs : lg = fa ++ fbb := by
    rw [← hlg, ← hfa, ← hfbb, ← hpa, ← hpb]
    exact S.log_two _ _
  have hkl2 : na + nb = kl := by rw [← hkl, hlgs, List.length_append, hna, hnb]
  have HLG := Lib.hid hlg
  have HKL := Lib.hid hkl
  have HPA := Lib.hid hpa
  have HPB := Lib.hid hpb
  have HKA := Lib.hid hka
  have HKB := Lib.hid hkb
  have HFA := Lib.hid hfa
  have HFB := Lib.hid hfbb
  have HNA := Lib.hid hna
  have HNB := Lib.hid hnb
  have HLGS := Lib.hid hlgs
  have HKL2 := Lib.hid hkl2
  have hl1 : (V.enc 1).length ≤ 10 := (V.enc_len 1).2
  have hl2 : (V.enc 2).length ≤ 10 := (V.enc_len 2).2
  have hl3 : (V.enc 2 ++ V.enc nm).length ≤ 20 := by rw [List.length_append]; have := (V.enc_len nm).2; omega
  clear hr hname hfb hrl hlc hcm hrd hfew hkr hx hlg hkl hpa hpb hka hkb hfa hfbb hna hnb hlgs hkl2
  go_enter Try.func3, Try.ntmps3
  go_wp2_with fail
  refine HFEW.out.mono ?_
  rintro e w1 ⟨A1, c1, rfl, hc1, hown1, hb1⟩
  clear HFEW
  have ha1 := own_from hown1
  go_wp2_with fail
  refine (new_any w1).mono ?_
  rintro e w2 ⟨g, bo, bn, rfl, hs2, hd2⟩
  have hb2 := blater hb1 (Nat.le_refl _) hd2
  have hw1 := hb1.size
  go_wp2_with fail
  refine (put_any w1.heap.size g bo bn 0 _ [] A1 kr c1 fb HKR.out (by simp) _ _ _ p1.out _ hs2 ((Reads.of_own hown1).later hd2) (fun ad e => by subst e; have := ha1 ad.block rfl; have := hd2.size; omega) (fun ad e hf => by subst e; have h1 := hs2.far_base _ hf; have := ha1 ad.block rfl; omega)).mono ?_
  rintro e w3 ⟨v3, rfl, hs3, ht3, _⟩
  have hd3 := hd2.trans (hs2.turn_below ht3 (Nat.le_refl _))
  clear hs2 hd2 ht3 hb2
  go_wp2_with fail
  refine (bind_any w1.heap.size g bo bn 0 v3 _ nm x (by simp) _ _ p3.out _ hs3).mono ?_
  rintro e w4 ⟨v4, rfl, hs4, ht4, _⟩
  have hd4 := hd3.trans (hs3.turn_below ht4 (Nat.le_refl _))
  clear hs3 ht4 hd3
  have hr4 := (Reads.of_own hown1).later hd4
  have hb4 := blater hb1 (Nat.le_refl _) hd4
  have hA4 : ∀ ad, A1 = some ad → ad.block < w4.heap.size := fun ad e => by subst e; have := ha1 ad.block rfl; have := hd4.size; omega
  have ho4 := OutAt.new w4
  have hd5 : Below w4.heap.size w4 (w4.alloc (.cells #[.slice none 0 0] 32)) := (Below.refl _ _).alloc (Nat.le_refl _) _
  have HA4 := Lib.hid hA4
  clear hown1 hd4 ha1 hA4
  go_wp2_with fail
  refine (outUint_lit _ _ [] (V.enc 1) 1 1 rfl (by omega) (by simp) rfl _ ho4).mono ?_
  rintro e w5 ⟨rfl, ho5, ht5⟩
  have hd5 := hd5.trans (ht5.below ho4)
  go_wp2_with fail
  refine (outBytes_any _ _ (V.enc 1) A1 kr c1 fb HKR.out (by omega) _ ho5 (hr4.later hd5) (far_below (n := 0) ho5 HA4.out) (fun ad e => by have := HA4.out ad e; have := hd5.size; omega)).mono ?_
  rintro e w6 ⟨rfl, ho6, ht6⟩
  have ho6 : OutAt w6 w4.heap.size w4.heap.size pa := by
    have e1 : V.enc 1 ++ V.enc (UInt64.ofNat kr) ++ fb = pa := by rw [← HPA.out]; show _ = V.enc 1 ++ (V.enc (UInt64.ofNat fb.length) ++ fb); rw [HKR.out, List.append_assoc]
    rw [← e1]; exact ho6
  have hd6 := hd5.trans (ht6.below ho5)
  clear ho4 ho5 ht5 ht6 hd5
  have hoy := OutAt.new w6
  have hdy : Below w6.heap.size w6 (w6.alloc (.cells #[.slice none 0 0] 32)) := (Below.refl _ _).alloc (Nat.le_refl _) _
  go_wp2_with fail
  refine (outUint_lit _ _ [] (V.enc 2) 2 2 rfl (by omega) (by simp) rfl _ hoy).mono ?_
  rintro e w7 ⟨rfl, ho7, ht7⟩
  have hd7 := hdy.trans (ht7.below hoy)
  go_wp2_with fail
  refine (outUint_any _ _ (V.enc 2) nm (by omega) _ ho7).mono ?_
  rintro e w8 ⟨rfl, ho8, ht8⟩
  have hd8 := hd7.trans (ht8.below ho7)
  go_wp2_with fail
  refine (outUint_any _ _ (V.enc 2 ++ V.enc nm) x (by omega) _ ho8).mono ?_
  rintro e w9 ⟨rfl, ho9, ht9⟩
  have hd9 := hd8.trans (ht9.below ho8)
  have ho9 : OutAt w9 w6.heap.size w6.heap.size pb := by rw [← HPB.out]; exact ho9
  have hox := ho6.later hd9
  clear hoy hdy ho7 ho8 ht7 ht8 ht9 hd7 hd8 ho6
  have hd49 := blater hd6 (Nat.le_refl _) hd9
  clear hd6 hd9
  go_wp2_with fail
  refine (done_reads _ _ ka pa HKA.out (by omega) _ hox).mono ?_
  rintro e w10 ⟨A10, c10, rfl, _, hown10, hd10⟩
  have hd410 := blater hd49 (Nat.le_refl _) hd10
  have hoy := ho9.later hd10
  clear ho9 hox hd49
  go_wp2_with fail
  refine (framed_any A10 ka c10 na pa fa HKA.out HFA.out HNA.out (by omega) _ (Reads.of_own hown10)).mono ?_
  rintro e w11 ⟨A11, c11, rfl, _, hown11, hd11⟩
  have hd411 := blater hd410 (Nat.le_refl _) hd11
  have hoy := hoy.later hd11
  have hd410' := hd410
  clear hown10 hd10 hd410
  go_wp2_with fail
  refine (done_reads _ _ kb pb HKB.out (by omega) _ hoy).mono ?_
  rintro e w12 ⟨A12, c12, rfl, _, hown12, hd12⟩
  have hd412 := blater hd411 (Nat.le_refl _) hd12
  have hown11 := own_below hown11 hd12
  clear hoy hd411
  go_wp2_with fail
  refine (framed_any A12 kb c12 nb pb fbb HKB.out HFB.out HNB.out (by omega) _ (Reads.of_own hown12)).mono ?_
  rintro e w13 ⟨A13, c13, rfl, _, hown13, hd13⟩
  have hd413 := blater hd412 (Nat.le_refl _) hd13
  have hown11 := own_below hown11 hd13
  have hs13 := hd413.size
  have h10 : w10.heap.size ≤ w13.heap.size := by have := hd11.size; have := hd12.size; have := hd13.size; omega
  clear hown12 hd412 hd12 hd13 hd11
  go_wp2_with (at_builtin; refine wpList_append_any _ rfl _ _ 22 rfl w10.heap.size 5 i0 (.int .u8 0) 1 1 Try.underlying22 hi hz0 hz1 hz2 rfl (by decide) _ _ _ rfl hown11 w13.heap.size A13 nb c13 (bv fbb) rfl (Reads.of_own hown13) (bv_one fbb) (by unfold maxLen; omega) (by omega) (by omega) ?_; intro v14 w14 hown14 hgrow hat)
  have hd414 := hd413.grown hgrow hs13 (fun k e => by have := (own_from hown11 k e).1; have := hd410'.size; omega)
  rw [← bv_app, ← HLGS.out, HKL2.out] at hown14
  obtain ⟨A14, c14, rfl, _, hr14, _⟩ := own_reads hown14
  have hdr : Below w14.heap.size w14 w14.drew := Below.drew (Below.refl w14.heap.size w14)
  have hd414 := blater hd414 (Nat.le_refl _) hdr
  have hr14 := hr14.later hdr
  have hrf := hr4.later hd414
  have hs14 := hs4.later hd414
  have hb14 := blater hb4 (Nat.le_refl _) hd414
  have HLK := Lib.hid (show (S.log [.obj fb, .bind nm x]).length = kl by rw [HLG.out]; exact HKL.out)
  clear hown14 hgrow hat hown11 hown13 hd413 hs13 h10 hd410' hs4 hr4 hb4 hd414 hdr hb1 hi hz0 hz1 hz2 hl1 hl2 hl3 hw1
  go_wp2_with fail
  refine wp_region_held_drew (S := fun _ => True) (by kernel_rfl) trivial (fun hHeld => ?_)
  clear hHeld
  (try simp only [Act.put, List.setIfInBounds_toArray, List.set_cons_zero, List.set_cons_succ])
  refine wpAnyH_take (i := 0) (oi := { dst := some 41, op := Op.move (Operand.tmp 8), type := 27, pos := _, after := #[], guard := none }) (v := ?_) rfl (by kernel_rfl) (by kernel_rfl) (by kernel_rfl) (fun _ _ _ h => h) (Or.inl ⟨by rfl, ?_⟩) trivial ?_
  rotate_left
  · intro w hSw; go_simp; try with_reducible rfl
  (try simp only [Act.put, List.setIfInBounds_toArray, List.set_cons_zero, List.set_cons_succ])
  refine wpAnyH_take (i := 1) (oi := { dst := some 42, op := Op.binOp BinOp.eql 27 (Operand.tmp 41) (Operand.const (Value.int IntKind.i64 0)) 27, type := 4, pos := _, after := #[{ on := 0, ground := Ground.data }], guard := none }) (v := ?_) rfl (by kernel_rfl) (by kernel_rfl) (by kernel_rfl) (fun _ _ _ h => h) (Or.inl ⟨by rfl, ?_⟩) trivial ?_
  rotate_left
  · intro w hSw; go_simp; try with_reducible rfl
  (try simp only [Act.put, List.setIfInBounds_toArray, List.set_cons_zero, List.set_cons_succ])
  refine wpAnyH_take (i := 2) (oi := { dst := some 43, op := Op.move (Operand.tmp 42), type := 4, pos := _, after := #[{ on := 1, ground := Ground.data }], guard := none }) (v := ?_) rfl (by kernel_rfl) (by kernel_rfl) (by kernel_rfl) (fun _ _ _ h => h) (Or.inl ⟨by rfl, ?_⟩) trivial ?_
  rotate_left
  · intro w hSw; go_simp; try with_reducible rfl
  (try simp only [Act.put, List.setIfInBounds_toArray, List.set_cons_zero, List.set_cons_succ])
  refine wpAnyH_take (i := 3) (oi := { dst := some 44, op := Op.move (Operand.tmp 9), type := 27, pos := _, after := #[{ on := 2, ground := Ground.guard }], guard := some (2, true) }) (v := ?_) rfl (by kernel_rfl) (by kernel_rfl) (by kernel_rfl) (fun _ _ _ h => h) (Or.inl ⟨by rfl, ?_⟩) trivial ?_
  rotate_left
  · intro w hSw; go_simp; try with_reducible rfl
  (try simp only [Act.put, List.setIfInBounds_toArray, List.set_cons_zero, List.set_cons_succ])
  refine wpAnyH_take (i := 4) (oi := { dst := some 45, op := Op.binOp BinOp.eql 27 (Operand.tmp 44) (Operand.const (Value.int IntKind.i64 0)) 27, type := 4, pos := _, after := #[{ on := 3, ground := Ground.data }, { on := 2, ground := Ground.guard }], guard := some (2, true) }) (v := ?_) rfl (by kernel_rfl) (by kernel_rfl) (by kernel_rfl) (fun _ _ _ h => h) (Or.inl ⟨by rfl, ?_⟩) trivial ?_
  rotate_left
  · intro w hSw; go_simp; try with_reducible rfl
  (try simp only [Act.put, List.setIfInBounds_toArray, List.set_cons_zero, List.set_cons_succ])
  refine wpAnyH_take (i := 5) (oi := { dst := some 46, op := Op.pick (Operand.tmp 43) (Operand.tmp 45) (Operand.const (Value.bool false)), type := 4, pos := _, after := #[{ on := 2, ground := Ground.data }, { on := 4, ground := Ground.data }], guard := none }) (v := ?_) rfl (by kernel_rfl) (by kernel_rfl) (by kernel_rfl) (fun _ _ _ h => h) (Or.inl ⟨by rfl, ?_⟩) trivial ?_
  rotate_left
  · intro w hSw; go_simp; try with_reducible rfl
  (try simp only [Act.put, List.setIfInBounds_toArray, List.set_cons_zero, List.set_cons_succ])
  refine wpAnyH_take (i := 6) (oi := { dst := some 47, op := Op.move (Operand.tmp 46), type := 4, pos := _, after := #[{ on := 5, ground := Ground.data }, { on := 2, ground := Ground.chain }], guard := none }) (v := ?_) rfl (by kernel_rfl) (by kernel_rfl) (by kernel_rfl) (fun _ _ _ h => h) (Or.inl ⟨by rfl, ?_⟩) trivial ?_
  rotate_left
  · intro w hSw; go_simp; try with_reducible rfl
  (try simp only [Act.put, List.setIfInBounds_toArray, List.set_cons_zero, List.set_cons_succ])
  refine wpAnyH_take (i := 7) (oi := { dst := some 48, op := Op.move (Operand.tmp 7), type := 23, pos := _, after := #[{ on := 6, ground := Ground.guard }], guard := some (6, true) }) (v := ?_) rfl (by kernel_rfl) (by kernel_rfl) (by kernel_rfl) (fun _ _ _ h => h) (Or.inl ⟨by rfl, ?_⟩) trivial ?_
  rotate_left
  · intro w hSw; go_simp; try with_reducible rfl
  (try simp only [Act.put, List.setIfInBounds_toArray, List.set_cons_zero, List.set_cons_succ])
  refine wpAnyH_take (i := 8) (oi := { dst := some 49, op := Op.move (Operand.tmp 5), type := 22, pos := _, after := #[{ on := 6, ground := Ground.guard }], guard := some (6, true) }) (v := ?_) rfl (by kernel_rfl) (by kernel_rfl) (by kernel_rfl) (fun _ _ _ h => h) (Or.inl ⟨by rfl, ?_⟩) trivial ?_
  rotate_left
  · intro w hSw; go_simp; try with_reducible rfl
  (try simp only [Act.put, List.setIfInBounds_toArray, List.set_cons_zero, List.set_cons_succ])
  refine wpAnyH_ready (rs := [9]) (by kernel_rfl) (by simp) (AllReadyH.cons (o := { dst := some 50, op := Op.call { callee := Callee.value (Operand.func 18), args := #[Operand.const (Value.string { data := #[111, 98, 106, 101, 99, 116] }), Operand.tmp 49], argTypes := #[9, 22] }, type := 23, pos := _, after := #[{ on := 8, ground := Ground.data }, { on := 6, ground := Ground.chain }, { on := 6, ground := Ground.guard }], guard := some (6, true) }) rfl (fun K hK => ?_) AllReadyH.nil)
  go_simp
  go_at_call 18
  refine (hash_obj A1 kr c1 fb x HX.out HKR.out (by omega) _ hrf).mono ?_
  rintro e wh ⟨rfl, hdh⟩
  have hsh := hs14.later hdh
  have hrw := hr14.later hdh
  have hbh := blater hb14 (Nat.le_refl _) hdh
  have hcw := conv_string wh A14 kl c14 lg HKL.out hrw
  go_simp
  refine hK.out _ _ trivial (fun hHeld => ?_)
  clear hK K hHeld
  (try simp only [Act.put, List.setIfInBounds_toArray, List.set_cons_zero, List.set_cons_succ])
  refine wpAnyH_take (i := 10) (oi := { dst := some 51, op := Op.binOp BinOp.eql 23 (Operand.tmp 48) (Operand.tmp 50) 23, type := 4, pos := _, after := #[{ on := 7, ground := Ground.data }, { on := 9, ground := Ground.data }, { on := 6, ground := Ground.guard }], guard := some (6, true) }) (v := ?_) rfl (by kernel_rfl) (by kernel_rfl) (by kernel_rfl) (fun _ _ _ h => h) (Or.inl ⟨by rfl, ?_⟩) trivial ?_
  rotate_left
  · intro w hSw; go_simp; try with_reducible rfl
  (try simp only [Act.put, List.setIfInBounds_toArray, List.set_cons_zero, List.set_cons_succ])
  refine wpAnyH_take (i := 11) (oi := { dst := some 52, op := Op.pick (Operand.tmp 47) (Operand.tmp 51) (Operand.const (Value.bool false)), type := 4, pos := _, after := #[{ on := 6, ground := Ground.data }, { on := 10, ground := Ground.data }], guard := none }) (v := ?_) rfl (by kernel_rfl) (by kernel_rfl) (by kernel_rfl) (fun _ _ _ h => h) (Or.inl ⟨by rfl, ?_⟩) trivial ?_
  rotate_left
  · intro w hSw; go_simp; try with_reducible rfl
  (try simp only [Act.put, List.setIfInBounds_toArray, List.set_cons_zero, List.set_cons_succ])
  refine wpAnyH_take (i := 12) (oi := { dst := some 53, op := Op.move (Operand.tmp 52), type := 4, pos := _, after := #[{ on := 11, ground := Ground.data }, { on := 9, ground := Ground.chain }], guard := none }) (v := ?_) rfl (by kernel_rfl) (by kernel_rfl) (by kernel_rfl) (fun _ _ _ h => h) (Or.inl ⟨by rfl, ?_⟩) trivial ?_
  rotate_left
  · intro w hSw; go_simp; try with_reducible rfl
  (try simp only [Act.put, List.setIfInBounds_toArray, List.set_cons_zero, List.set_cons_succ])
  refine wpAnyH_take (i := 13) (oi := { dst := some 54, op := Op.move (Operand.tmp 6), type := 25, pos := _, after := #[{ on := 12, ground := Ground.guard }], guard := some (12, true) }) (v := ?_) rfl (by kernel_rfl) (by kernel_rfl) (by kernel_rfl) (fun _ _ _ h => h) (Or.inl ⟨by rfl, ?_⟩) trivial ?_
  rotate_left
  · intro w hSw; go_simp; try with_reducible rfl
  (try simp only [Act.put, List.setIfInBounds_toArray, List.set_cons_zero, List.set_cons_succ])
  refine wpAnyH_take (i := 16) (oi := { dst := some 57, op := Op.move (Operand.tmp 12), type := 22, pos := _, after := #[{ on := 12, ground := Ground.guard }], guard := some (12, true) }) (v := ?_) rfl (by kernel_rfl) (by kernel_rfl) (by kernel_rfl) (fun _ _ _ h => h) (Or.inl ⟨by rfl, ?_⟩) trivial ?_
  rotate_left
  · intro w hSw; go_simp; try with_reducible rfl
  (try simp only [Act.put, List.setIfInBounds_toArray, List.set_cons_zero, List.set_cons_succ])
  refine wpAnyH_ready (rs := [14, 17]) (by kernel_rfl) (by simp) (AllReadyH.cons (o := { dst := some 55, op := Op.call { callee := Callee.value (Operand.func 19), args := #[Operand.tmp 54], argTypes := #[25] }, type := 22, pos := _, after := #[{ on := 13, ground := Ground.data }, { on := 12, ground := Ground.chain }, { on := 12, ground := Ground.guard }], guard := some (12, true) }) rfl (fun K hK => ?_) (AllReadyH.cons (o := { dst := some 58, op := Op.convert 22 9 (Operand.tmp 57), type := 9, pos := _, after := #[{ on := 16, ground := Ground.data }, { on := 12, ground := Ground.guard }], guard := some (12, true) }) rfl (fun K hK => ?_) AllReadyH.nil))
  · go_simp
    go_at_call 19
    refine (sbytes_any w1.heap.size g bo bn 0 kl v4 _ HLK.out _ hsh).mono ?_
    rintro e wb ⟨A15, c15, rfl, _, hown15, hdb⟩
    have hbb := blater hbh (Nat.le_refl _) hdb
    rw [HLG.out] at hown15
    have hcx := conv_string wb A15 kl c15 lg HKL.out (Reads.of_own hown15)
    have hcy := conv_string wb A14 kl c14 lg HKL.out (hrw.later hdb)
    go_simp
    refine hK.out _ _ trivial (fun hHeld => ?_)
    clear hK K hHeld
    (try simp only [Act.put, List.setIfInBounds_toArray, List.set_cons_zero, List.set_cons_succ])
    refine wpAnyH_ready (rs := [15, 17]) (by kernel_rfl) (by simp) (AllReadyH.cons (o := { dst := some 56, op := Op.convert 22 9 (Operand.tmp 55), type := 9, pos := _, after := #[{ on := 14, ground := Ground.data }, { on := 12, ground := Ground.guard }], guard := some (12, true) }) rfl (fun K hK => ?_) (AllReadyH.cons (o := { dst := some 58, op := Op.convert 22 9 (Operand.tmp 57), type := 9, pos := _, after := #[{ on := 16, ground := Ground.data }, { on := 12, ground := Ground.guard }], guard := some (12, true) }) rfl (fun K hK => ?_) AllReadyH.nil))
    · go_simp
      refine hK.out _ _ trivial (fun hHeld => ?_)
      clear hK K hHeld
      (try simp only [Act.put, List.setIfInBounds_toArray, List.set_cons_zero, List.set_cons_succ])
      refine wpAnyH_ready (rs := [17]) (by kernel_rfl) (by simp) (AllReadyH.cons (o := { dst := some 58, op := Op.convert 22 9 (Operand.tmp 57), type := 9, pos := _, after := #[{ on := 16, ground := Ground.data }, { on := 12, ground := Ground.guard }], guard := some (12, true) }) rfl (fun K hK => ?_) AllReadyH.nil)
      go_simp
      refine hK.out _ _ trivial (fun hHeld => ?_)
      clear hK K hHeld
      (try simp only [Act.put, List.setIfInBounds_toArray, List.set_cons_zero, List.set_cons_succ])
      refine wpAnyH_take (i := 18) (oi := { dst := some 59, op := Op.binOp BinOp.eql 9 (Operand.tmp 56) (Operand.tmp 58) 9, type := 4, pos := _, after := #[{ on := 15, ground := Ground.data }, { on := 17, ground := Ground.data }, { on := 12, ground := Ground.guard }], guard := some (12, true) }) (v := ?_) rfl (by kernel_rfl) (by kernel_rfl) (by kernel_rfl) (fun _ _ _ h => h) (Or.inl ⟨by rfl, ?_⟩) trivial ?_
      rotate_left
      · intro w hSw; go_simp; try with_reducible rfl
      (try simp only [Act.put, List.setIfInBounds_toArray, List.set_cons_zero, List.set_cons_succ])
      refine wpAnyH_take (i := 19) (oi := { dst := some 60, op := Op.pick (Operand.tmp 53) (Operand.tmp 59) (Operand.const (Value.bool false)), type := 4, pos := _, after := #[{ on := 12, ground := Ground.data }, { on := 18, ground := Ground.data }], guard := none }) (v := ?_) rfl (by kernel_rfl) (by kernel_rfl) (by kernel_rfl) (fun _ _ _ h => h) (Or.inl ⟨by rfl, ?_⟩) trivial ?_
      rotate_left
      · intro w hSw; go_simp; try with_reducible rfl
      (try simp only [Act.put, List.setIfInBounds_toArray, List.set_cons_zero, List.set_cons_succ])
      refine wpAnyH_take (i := 20) (oi := { dst := some 61, op := Op.move (Operand.tmp 60), type := 4, pos := _, after := #[{ on := 19, ground := Ground.data }, { on := 14, ground := Ground.chain }], guard := none }) (v := ?_) rfl (by kernel_rfl) (by kernel_rfl) (by kernel_rfl) (fun _ _ _ h => h) (Or.inl ⟨by rfl, ?_⟩) trivial ?_
      rotate_left
      · intro w hSw; go_simp; try with_reducible rfl
      (try simp only [Act.put, List.setIfInBounds_toArray, List.set_cons_zero, List.set_cons_succ])
      refine wpAnyH_ready (rs := [21]) (by kernel_rfl) (by simp) (AllReadyH.cons (o := { dst := some 62, op := Op.call { callee := Callee.value (Operand.func 20), args := #[], argTypes := #[] }, type := 4, pos := _, after := #[{ on := 20, ground := Ground.chain }, { on := 20, ground := Ground.guard }], guard := some (20, true) }) rfl (fun K hK => ?_) AllReadyH.nil)
      go_simp
      go_at_call 20
      refine (lives_any _).mono ?_
      rintro e wl ⟨rfl, hdl⟩
      have hbl := blater hbb (Nat.le_refl _) hdl
      go_simp
      refine hK.out _ _ trivial (fun hHeld => ?_)
      clear hK K hHeld
      (try simp only [Act.put, List.setIfInBounds_toArray, List.set_cons_zero, List.set_cons_succ])
      refine wpAnyH_take (i := 22) (oi := { dst := some 63, op := Op.pick (Operand.tmp 61) (Operand.tmp 62) (Operand.const (Value.bool false)), type := 4, pos := _, after := #[{ on := 20, ground := Ground.data }, { on := 21, ground := Ground.data }], guard := none }) (v := ?_) rfl (by kernel_rfl) (by kernel_rfl) (by kernel_rfl) (fun _ _ _ h => h) (Or.inl ⟨by rfl, ?_⟩) trivial ?_
      rotate_left
      · intro w hSw; go_simp; try with_reducible rfl
      (try simp only [Act.put, List.setIfInBounds_toArray, List.set_cons_zero, List.set_cons_succ])
      refine wpAnyH_take (i := 23) (oi := { dst := some 4, op := Op.assign (Operand.tmp 63), type := 4, pos := _, after := #[{ on := 22, ground := Ground.data }, { on := 21, ground := Ground.chain }, { on := 0, ground := Ground.phase }, { on := 1, ground := Ground.phase }, { on := 2, ground := Ground.phase }, { on := 3, ground := Ground.phase }, { on := 4, ground := Ground.phase }, { on := 5, ground := Ground.phase }, { on := 6, ground := Ground.phase }, { on := 7, ground := Ground.phase }, { on := 8, ground := Ground.phase }, { on := 9, ground := Ground.phase }, { on := 10, ground := Ground.phase }, { on := 11, ground := Ground.phase }, { on := 12, ground := Ground.phase }, { on := 13, ground := Ground.phase }, { on := 14, ground := Ground.phase }, { on := 15, ground := Ground.phase }, { on := 16, ground := Ground.phase }, { on := 17, ground := Ground.phase }, { on := 18, ground := Ground.phase }, { on := 19, ground := Ground.phase }, { on := 20, ground := Ground.phase }, { on := 21, ground := Ground.phase }, { on := 22, ground := Ground.phase }], guard := none }) (v := ?_) rfl (by kernel_rfl) (by kernel_rfl) (by kernel_rfl) (fun _ _ _ h => h) (Or.inl ⟨by rfl, ?_⟩) trivial ?_
      rotate_left
      · intro w hSw; go_simp; try with_reducible rfl
      (try simp only [Act.put, List.setIfInBounds_toArray, List.set_cons_zero, List.set_cons_succ])
      refine wpAnyH_done (by kernel_rfl) ?_ _
      clear hsh hrw
      go_wp2_with fail
      go_ret
      exact ⟨rfl, hbl⟩
    · go_simp
      refine hK.out _ _ trivial (fun hHeld => ?_)
      clear hK K hHeld
      (try simp only [Act.put, List.setIfInBounds_toArray, List.set_cons_zero, List.set_cons_succ])
      refine wpAnyH_ready (rs := [15]) (by kernel_rfl) (by simp) (AllReadyH.cons (o := { dst := some 56, op := Op.convert 22 9 (Operand.tmp 55), type := 9, pos := _, after := #[{ on := 14, ground := Ground.data }, { on := 12, ground := Ground.guard }], guard := some (12, true) }) rfl (fun K hK => ?_) AllReadyH.nil)
      go_simp
      refine hK.out _ _ trivial (fun hHeld => ?_)
      clear hK K hHeld
      (try simp only [Act.put, List.setIfInBounds_toArray, List.set_cons_zero, List.set_cons_succ])
      refine wpAnyH_take (i := 18) (oi := { dst := some 59, op := Op.binOp BinOp.eql 9 (Operand.tmp 56) (Operand.tmp 58) 9, type := 4, pos := _, after := #[{ on := 15, ground := Ground.data }, { on := 17, ground := Ground.data }, { on := 12, ground := Ground.guard }], guard := some (12, true) }) (v := ?_) rfl (by kernel_rfl) (by kernel_rfl) (by kernel_rfl) (fun _ _ _ h => h) (Or.inl ⟨by rfl, ?_⟩) trivial ?_
      rotate_left
      · intro w hSw; go_simp; try with_reducible rfl
      (try simp only [Act.put, List.setIfInBounds_toArray, List.set_cons_zero, List.set_cons_succ])
      refine wpAnyH_take (i := 19) (oi := { dst := some 60, op := Op.pick (Operand.tmp 53) (Operand.tmp 59) (Operand.const (Value.bool false)), type := 4, pos := _, after := #[{ on := 12, ground := Ground.data }, { on := 18, ground := Ground.data }], guard := none }) (v := ?_) rfl (by kernel_rfl) (by kernel_rfl) (by kernel_rfl) (fun _ _ _ h => h) (Or.inl ⟨by rfl, ?_⟩) trivial ?_
      rotate_left
      · intro w hSw; go_simp; try with_reducible rfl
      (try simp only [Act.put, List.setIfInBounds_toArray, List.set_cons_zero, List.set_cons_succ])
      refine wpAnyH_take (i := 20) (oi := { dst := some 61, op := Op.move (Operand.tmp 60), type := 4, pos := _, after := #[{ on := 19, ground := Ground.data }, { on := 14, ground := Ground.chain }], guard := none }) (v := ?_) rfl (by kernel_rfl) (by kernel_rfl) (by kernel_rfl) (fun _ _ _ h => h) (Or.inl ⟨by rfl, ?_⟩) trivial ?_
      rotate_left
      · intro w hSw; go_simp; try with_reducible rfl
      (try simp only [Act.put, List.setIfInBounds_toArray, List.set_cons_zero, List.set_cons_succ])
      refine wpAnyH_ready (rs := [21]) (by kernel_rfl) (by simp) (AllReadyH.cons (o := { dst := some 62, op := Op.call { callee := Callee.value (Operand.func 20), args := #[], argTypes := #[] }, type := 4, pos := _, after := #[{ on := 20, ground := Ground.chain }, { on := 20, ground := Ground.guard }], guard := some (20, true) }) rfl (fun K hK => ?_) AllReadyH.nil)
      go_simp
      go_at_call 20
      refine (lives_any _).mono ?_
      rintro e wl ⟨rfl, hdl⟩
      have hbl := blater hbb (Nat.le_refl _) hdl
      go_simp
      refine hK.out _ _ trivial (fun hHeld => ?_)
      clear hK K hHeld
      (try simp only [Act.put, List.setIfInBounds_toArray, List.set_cons_zero, List.set_cons_succ])
      refine wpAnyH_take (i := 22) (oi := { dst := some 63, op := Op.pick (Operand.tmp 61) (Operand.tmp 62) (Operand.const (Value.bool false)), type := 4, pos := _, after := #[{ on := 20, ground := Ground.data }, { on := 21, ground := Ground.data }], guard := none }) (v := ?_) rfl (by kernel_rfl) (by kernel_rfl) (by kernel_rfl) (fun _ _ _ h => h) (Or.inl ⟨by rfl, ?_⟩) trivial ?_
      rotate_left
      · intro w hSw; go_simp; try with_reducible rfl
      (try simp only [Act.put, List.setIfInBounds_toArray, List.set_cons_zero, List.set_cons_succ])
      refine wpAnyH_take (i := 23) (oi := { dst := some 4, op := Op.assign (Operand.tmp 63), type := 4, pos := _, after := #[{ on := 22, ground := Ground.data }, { on := 21, ground := Ground.chain }, { on := 0, ground := Ground.phase }, { on := 1, ground := Ground.phase }, { on := 2, ground := Ground.phase }, { on := 3, ground := Ground.phase }, { on := 4, ground := Ground.phase }, { on := 5, ground := Ground.phase }, { on := 6, ground := Ground.phase }, { on := 7, ground := Ground.phase }, { on := 8, ground := Ground.phase }, { on := 9, ground := Ground.phase }, { on := 10, ground := Ground.phase }, { on := 11, ground := Ground.phase }, { on := 12, ground := Ground.phase }, { on := 13, ground := Ground.phase }, { on := 14, ground := Ground.phase }, { on := 15, ground := Ground.phase }, { on := 16, ground := Ground.phase }, { on := 17, ground := Ground.phase }, { on := 18, ground := Ground.phase }, { on := 19, ground := Ground.phase }, { on := 20, ground := Ground.phase }, { on := 21, ground := Ground.phase }, { on := 22, ground := Ground.phase }], guard := none }) (v := ?_) rfl (by kernel_rfl) (by kernel_rfl) (by kernel_rfl) (fun _ _ _ h => h) (Or.inl ⟨by rfl, ?_⟩) trivial ?_
      rotate_left
      · intro w hSw; go_simp; try with_reducible rfl
      (try simp only [Act.put, List.setIfInBounds_toArray, List.set_cons_zero, List.set_cons_succ])
      refine wpAnyH_done (by kernel_rfl) ?_ _
      clear hsh hrw
      go_wp2_with fail
      go_ret
      exact ⟨rfl, hbl⟩
  · go_simp
    refine hK.out _ _ trivial (fun hHeld => ?_)
    clear hK K hHeld
    (try simp only [Act.put, List.setIfInBounds_toArray, List.set_cons_zero, List.set_cons_succ])
    refine wpAnyH_ready (rs := [14]) (by kernel_rfl) (by simp) (AllReadyH.cons (o := { dst := some 55, op := Op.call { callee := Callee.value (Operand.func 19), args := #[Operand.tmp 54], argTypes := #[25] }, type := 22, pos := _, after := #[{ on := 13, ground := Ground.data }, { on := 12, ground := Ground.chain }, { on := 12, ground := Ground.guard }], guard := some (12, true) }) rfl (fun K hK => ?_) AllReadyH.nil)
    go_simp
    go_at_call 19
    refine (sbytes_any w1.heap.size g bo bn 0 kl v4 _ HLK.out _ hsh).mono ?_
    rintro e wb ⟨A15, c15, rfl, _, hown15, hdb⟩
    have hbb := blater hbh (Nat.le_refl _) hdb
    rw [HLG.out] at hown15
    have hcx := conv_string wb A15 kl c15 lg HKL.out (Reads.of_own hown15)
    have hcy := conv_string wb A14 kl c14 lg HKL.out (hrw.later hdb)
    go_simp
    refine hK.out _ _ trivial (fun hHeld => ?_)
    clear hK K hHeld
    (try simp only [Act.put, List.setIfInBounds_toArray, List.set_cons_zero, List.set_cons_succ])
    refine wpAnyH_ready (rs := [15]) (by kernel_rfl) (by simp) (AllReadyH.cons (o := { dst := some 56, op := Op.convert 22 9 (Operand.tmp 55), type := 9, pos := _, after := #[{ on := 14, ground := Ground.data }, { on := 12, ground := Ground.guard }], guard := some (12, true) }) rfl (fun K hK => ?_) AllReadyH.nil)
    go_simp
    refine hK.out _ _ trivial (fun hHeld => ?_)
    clear hK K hHeld
    (try simp only [Act.put, List.setIfInBounds_toArray, List.set_cons_zero, List.set_cons_succ])
    refine wpAnyH_take (i := 18) (oi := { dst := some 59, op := Op.binOp BinOp.eql 9 (Operand.tmp 56) (Operand.tmp 58) 9, type := 4, pos := _, after := #[{ on := 15, ground := Ground.data }, { on := 17, ground := Ground.data }, { on := 12, ground := Ground.guard }], guard := some (12, true) }) (v := ?_) rfl (by kernel_rfl) (by kernel_rfl) (by kernel_rfl) (fun _ _ _ h => h) (Or.inl ⟨by rfl, ?_⟩) trivial ?_
    rotate_left
    · intro w hSw; go_simp; try with_reducible rfl
    (try simp only [Act.put, List.setIfInBounds_toArray, List.set_cons_zero, List.set_cons_succ])
    refine wpAnyH_take (i := 19) (oi := { dst := some 60, op := Op.pick (Operand.tmp 53) (Operand.tmp 59) (Operand.const (Value.bool false)), type := 4, pos := _, after := #[{ on := 12, ground := Ground.data }, { on := 18, ground := Ground.data }], guard := none }) (v := ?_) rfl (by kernel_rfl) (by kernel_rfl) (by kernel_rfl) (fun _ _ _ h => h) (Or.inl ⟨by rfl, ?_⟩) trivial ?_
    rotate_left
    · intro w hSw; go_simp; try with_reducible rfl
    (try simp only [Act.put, List.setIfInBounds_toArray, List.set_cons_zero, List.set_cons_succ])
    refine wpAnyH_take (i := 20) (oi := { dst := some 61, op := Op.move (Operand.tmp 60), type := 4, pos := _, after := #[{ on := 19, ground := Ground.data }, { on := 14, ground := Ground.chain }], guard := none }) (v := ?_) rfl (by kernel_rfl) (by kernel_rfl) (by kernel_rfl) (fun _ _ _ h => h) (Or.inl ⟨by rfl, ?_⟩) trivial ?_
    rotate_left
    · intro w hSw; go_simp; try with_reducible rfl
    (try simp only [Act.put, List.setIfInBounds_toArray, List.set_cons_zero, List.set_cons_succ])
    refine wpAnyH_ready (rs := [21]) (by kernel_rfl) (by simp) (AllReadyH.cons (o := { dst := some 62, op := Op.call { callee := Callee.value (Operand.func 20), args := #[], argTypes := #[] }, type := 4, pos := _, after := #[{ on := 20, ground := Ground.chain }, { on := 20, ground := Ground.guard }], guard := some (20, true) }) rfl (fun K hK => ?_) AllReadyH.nil)
    go_simp
    go_at_call 20
    refine (lives_any _).mono ?_
    rintro e wl ⟨rfl, hdl⟩
    have hbl := blater hbb (Nat.le_refl _) hdl
    go_simp
    refine hK.out _ _ trivial (fun hHeld => ?_)
    clear hK K hHeld
    (try simp only [Act.put, List.setIfInBounds_toArray, List.set_cons_zero, List.set_cons_succ])
    refine wpAnyH_take (i := 22) (oi := { dst := some 63, op := Op.pick (Operand.tmp 61) (Operand.tmp 62) (Operand.const (Value.bool false)), type := 4, pos := _, after := #[{ on := 20, ground := Ground.data }, { on := 21, ground := Ground.data }], guard := none }) (v := ?_) rfl (by kernel_rfl) (by kernel_rfl) (by kernel_rfl) (fun _ _ _ h => h) (Or.inl ⟨by rfl, ?_⟩) trivial ?_
    rotate_left
    · intro w hSw; go_simp; try with_reducible rfl
    (try simp only [Act.put, List.setIfInBounds_toArray, List.set_cons_zero, List.set_cons_succ])
    refine wpAnyH_take (i := 23) (oi := { dst := some 4, op := Op.assign (Operand.tmp 63), type := 4, pos := _, after := #[{ on := 22, ground := Ground.data }, { on := 21, ground := Ground.chain }, { on := 0, ground := Ground.phase }, { on := 1, ground := Ground.phase }, { on := 2, ground := Ground.phase }, { on := 3, ground := Ground.phase }, { on := 4, ground := Ground.phase }, { on := 5, ground := Ground.phase }, { on := 6, ground := Ground.phase }, { on := 7, ground := Ground.phase }, { on := 8, ground := Ground.phase }, { on := 9, ground := Ground.phase }, { on := 10, ground := Ground.phase }, { on := 11, ground := Ground.phase }, { on := 12, ground := Ground.phase }, { on := 13, ground := Ground.phase }, { on := 14, ground := Ground.phase }, { on := 15, ground := Ground.phase }, { on := 16, ground := Ground.phase }, { on := 17, ground := Ground.phase }, { on := 18, ground := Ground.phase }, { on := 19, ground := Ground.phase }, { on := 20, ground := Ground.phase }, { on := 21, ground := Ground.phase }, { on := 22, ground := Ground.phase }], guard := none }) (v := ?_) rfl (by kernel_rfl) (by kernel_rfl) (by kernel_rfl) (fun _ _ _ h => h) (Or.inl ⟨by rfl, ?_⟩) trivial ?_
    rotate_left
    · intro w hSw; go_simp; try with_reducible rfl
    (try simp only [Act.put, List.setIfInBounds_toArray, List.set_cons_zero, List.set_cons_succ])
    refine wpAnyH_done (by kernel_rfl) ?_ _
    clear hsh hrw
    go_wp2_with fail
    go_ret
    exact ⟨rfl, hbl⟩
end Go.Proofs.Ytfanhbemmjcomaa
