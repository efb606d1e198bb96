/- The law StoreGrows, walked. -/
import Derived.Test.YtfanhbemmjcomaaStDo
namespace Go.Proofs.Ytfanhbemmjcomaa
open Go.RowKit
set_option linter.unusedVariables false

theorem S.put_pre (L : List S.R) (b : List UInt8) : ∃ e, S.log (S.put L b).1 = S.log L ++ e := by
  unfold S.put
  split
  · exact ⟨[], by rw [List.append_nil]⟩
  · split
    · split
      · exact ⟨[], by rw [List.append_nil]⟩
      · exact ⟨[], by rw [List.append_nil]⟩
    · exact ⟨_, S.log_snoc _ _⟩
theorem S.bind_pre (L : List S.R) (n k : UInt64) : ∃ e, S.log (S.bind L n k).1 = S.log L ++ e := by
  unfold S.bind
  split
  · exact ⟨[], by rw [List.append_nil]⟩
  · split
    · exact ⟨[], by rw [List.append_nil]⟩
    · exact ⟨_, S.log_snoc _ _⟩
theorem S.doo_pre (L : List S.R) (o : S.O) : ∃ e, S.log (S.doo L o).1 = S.log L ++ e := by
  unfold S.doo
  split
  · exact S.put_pre L o.b
  · split
    · exact S.bind_pre L _ _
    · exact ⟨[], by rw [List.append_nil]⟩

/-- The strings that the region makes of what it knows. -/
def GrowS (A4 : Option Addr) (c4 : Nat) (A6 : Option Addr) (c6 nb na sy : Nat) (lb la : List UInt8) (W : World) : Prop :=
  (convert 22 9 (.slice A6 nb c6)).run Try.prog W = .ok (.string ⟨lb.toArray⟩) W ∧
  (convert 22 9 (.slice A4 nb c4)).run Try.prog W = .ok (.string ⟨lb.toArray⟩) W ∧
  (convert 22 9 (.slice A6 na c6)).run Try.prog W = .ok (.string ⟨la.toArray⟩) W ∧
  (convert 22 9 (.slice A6 sy c6)).run Try.prog W = .ok (.string ⟨(la.take sy).toArray⟩) W
theorem growS {A4 A6 : Option Addr} {c4 c6 nb na sy : Nat} {lb la : List UInt8} {W : World} (hnb : lb.length = nb) (hna : la.length = na) (htk : la.take nb = lb) (hn : nb ≤ na) (hsy : sy ≤ na) (h4 : Reads W W.heap.size 1 A4 nb (bv lb)) (h6 : Reads W W.heap.size 1 A6 na (bv la)) : GrowS A4 c4 A6 c6 nb na sy lb la W := by
  have h1 := h6.take hn
  rw [← few_take, htk] at h1
  have h2 := h6.take hsy
  rw [← few_take] at h2
  exact ⟨conv_string W A6 nb c6 lb hnb h1, conv_string W A4 nb c4 lb hnb h4, conv_string W A6 na c6 la hna h6, conv_string W A6 sy c6 _ (by rw [List.length_take]; omega) h2⟩

set_option maxRecDepth 10000 in
set_option maxHeartbeats 8000000 in
theorem storeGrows_walk (a : Option Addr) (len cap : Nat) (zs : List Int) (w : World) (hr : IsRow .i64 w a len cap zs) :
    Calls Try.prog 5 #[.slice a len cap] w fun e W' => e = .returned (.bool true) ∧ Below w.heap.size w W' := by
  obtain ⟨ks, hkl, hlc, hcm, hrd, hwf⟩ := isRow_ints hr
  have hops := fun W (h : Reads W W.heap.size 1 a len (iv ks)) => ops_any a len cap ks hkl (by omega) (fun n hn => wf_bd (hwf n hn)) W h
  have HOPS := Lib.hid hops
  have HRD := Lib.hid hrd
  clear hops hkl hlc hcm hwf hr hrd
  go_enter Try.func5, Try.ntmps5
  go_wp2_with fail
  refine (new_any w).mono ?_
  rintro e w1 ⟨g, bo, bn, rfl, hs1, hb1⟩
  go_wp2_with fail
  refine (HOPS.out _ (HRD.out.later hb1)).mono ?_
  rintro e w2 ⟨A, n, c, ops, rfl, hnc, hn16, hop, hok, hd2⟩
  have hs2 := hs1.later hd2
  have hb2 := blater hb1 (Nat.le_refl _) hd2
  have hfl1 := hs1.far_lt
  have hop2 := hop.weaken (G := far g bo bn (.slice none 0 0)) hfl1
  have HOK := Lib.hid hok
  clear hs1 hd2 hop hfl1 hok hb1 HOPS HRD
  go_wp2_with fail
  go_loopw [5] (fun ix wr => ∃ (i : Nat) (v : Value) (L : List S.R) (sy : Nat), i ≤ n ∧ ix = .int .i64 (i : Int) ∧ L.length ≤ i ∧ StAt wr w.heap.size g bo bn v L sy ∧ OpsAt wr (far g bo bn v) A n ops ∧ Below w.heap.size w wr) (fun ix _ => n - (intOf ix).toNat)
  case atStart => exact ⟨0, _, _, _, Nat.zero_le _, rfl, Nat.le_refl _, hs2, hop2, hb2⟩
  case round =>
    obtain ⟨i, v, L, sy, hi1, rfl, hLi, hs, hop, hB⟩ := hrel
    clear hs2 hop2 hb2
    by_cases hlt : i < n
    · obtain ⟨ga, o, Ab, cb, rfl, hfg, hgl, ho, c0, c1, c2, c3, hrb, hAb⟩ := op_at hop hlt
      have hoo := HOK.out o (List.mem_of_getElem? ho)
      have hpre := S.doo_pre L o
      have hln := S.doo_len L o
      obtain ⟨⟨L', k, er⟩, hR⟩ : ∃ r, S.doo L o = r := ⟨_, rfl⟩
      rw [hR] at hpre hln
      obtain ⟨ext, hext⟩ := hpre
      have hext : S.log L' = S.log L ++ ext := hext
      have hln : L'.length ≤ L.length + 1 := hln
      obtain ⟨kl, hkl⟩ : ∃ k, o.b.length = k := ⟨_, rfl⟩
      obtain ⟨kk, hkk⟩ : ∃ k, o.kind = k := ⟨_, rfl⟩
      obtain ⟨kn, hkn⟩ : ∃ k, o.num = k := ⟨_, rfl⟩
      obtain ⟨nm, hnm⟩ : ∃ k, o.name = k := ⟨_, rfl⟩
      rw [hkl] at c1 hrb
      rw [hkk] at c0
      rw [hkn] at c3
      rw [hnm] at c2
      obtain ⟨lb, hlb⟩ : ∃ l, S.log L = l := ⟨_, rfl⟩
      obtain ⟨nb, hnb⟩ : ∃ k, lb.length = k := ⟨_, rfl⟩
      obtain ⟨la, hla⟩ : ∃ l, S.log L' = l := ⟨_, rfl⟩
      obtain ⟨na, hna⟩ : ∃ k, la.length = k := ⟨_, rfl⟩
      rw [hlb, hla] at hext
      have hnab : nb ≤ na := by rw [← hna, ← hnb, hext, List.length_append]; omega
      have htk : la.take nb = lb := by rw [hext, ← hnb, List.take_left]
      have hsyl := hs.sync
      rw [hlb, hnb] at hsyl
      have HLB := Lib.hid hlb
      have HNB := Lib.hid hnb
      have HLA := Lib.hid hla
      have HNA := Lib.hid hna
      have HTK := Lib.hid htk
      have HR := Lib.hid hR
      have HKL := Lib.hid hkl
      have HKK := Lib.hid hkk
      have HKN := Lib.hid hkn
      have HNM := Lib.hid hnm
      have HOO := Lib.hid hoo
      have HAB := Lib.hid hAb
      have hbn := Lib.hid (show (S.log L).length = nb by rw [hlb]; exact hnb)
      have ban := Lib.hid (show (S.log L').length = na by rw [hla]; exact hna)
      have hi1' : (0 : Int) ≤ (i : Int) := by omega
      have hi2' : (i : Int) < (n : Int) := by omega
      clear hR hkl hkk hkn hnm hlb hnb hla hna htk hext hoo hAb ho
      obtain ⟨w3, rfl⟩ : ∃ x, x = wr := ⟨_, rfl⟩
      go_wp2_with fail
      refine (sbytes_any w.heap.size g bo bn sy nb v L hbn.out _ hs).mono ?_
      rintro e w4 ⟨A4, c4, rfl, hc4, hown4, hd4⟩
      have hs4 := hs.later hd4
      have hop4 := hop.turn (Turn.of_below (far g bo bn v) hd4) (fun i hi => .inl hi)
      have hB4 := blater hB (Nat.le_refl _) hd4
      rw [HLB.out] at hown4
      have d0 := (hd4.cell (p := ⟨ga, i * 4, none⟩) hgl).trans c0
      have d1 := (hd4.cell (p := ⟨ga, i * 4 + 1, none⟩) hgl).trans c1
      have d2 := (hd4.cell (p := ⟨ga, i * 4 + 2, none⟩) hgl).trans c2
      have d3 := (hd4.cell (p := ⟨ga, i * 4 + 3, none⟩) hgl).trans c3
      have hrb4 := hrb.later hd4
      have hsz4 := hd4.size
      have hf4 := hs.far_lt
      have ha4 := own_from hown4
      clear hs hop hB c0 c1 c2 c3 hrb hd4
      go_wp2_with fail
      refine (synced_any w.heap.size g bo bn sy v L _ hs4).mono ?_
      rintro e wz ⟨rfl, rfl⟩
      go_wp2_with fail
      refine (do_any w.heap.size g bo bn sy v L o HOO.out kl kk kn nm HKL.out HKK.out HKN.out HNM.out Ab cb (by omega) L' k er HR.out _ hs4 hrb4 (fun ad e => ⟨Nat.lt_of_lt_of_le (HAB.out ad e).1 hsz4, (HAB.out ad e).2⟩)).mono ?_
      rintro e w5 ⟨rfl, v5, hs5, ht5, hn5⟩
      obtain ⟨sy5, hsy5⟩ : ∃ s, (if kk = 2 then (S.log L).length else sy) = s := ⟨_, rfl⟩
      rw [hsy5] at hs5
      have hsm : sy ≤ sy5 := by rw [← hsy5]; split <;> (try rw [hbn.out]) <;> omega
      have hop5 := hop4.turn ht5 hn5.far
      have hB5 := hB4.trans (hs4.turn_below ht5 (Nat.le_refl _))
      have hr5 := (ht5.reads (Reads.of_own hown4) (Nat.le_refl _) (fun ad e hf => by subst e; have h1 := (ha4 ad.block rfl).1; have := hf4 _ hf; omega)).more ht5.size
      have hsy5n := hs5.sync
      rw [ban.out] at hsy5n
      clear hs4 hop4 hB4 ht5 hn5 d0 d1 d2 d3 hrb4 hown4 ha4 hf4 hsy5
      go_wp2_with fail
      refine (sbytes_any w.heap.size g bo bn sy5 na v5 L' ban.out _ hs5).mono ?_
      rintro e w6 ⟨A6, c6, rfl, hc6, hown6, hd6⟩
      have hs6 := hs5.later hd6
      have hop6 := hop5.turn (Turn.of_below (far g bo bn v5) hd6) (fun i hi => .inl hi)
      have hB6 := blater hB5 (Nat.le_refl _) hd6
      rw [HLA.out] at hown6
      have hr6 := hr5.later hd6
      have hra := Reads.of_own hown6
      have hc6m := own_cap hown6
      clear hs5 hop5 hB5 hr5 hown6 hd6
      have q1 : ¬ ((na : Int) < (nb : Int)) := by omega
      have q2 : ¬ ((sy : Int) < 0) := by omega
      have q3 : ¬ ((sy5 : Int) < (sy : Int)) := by omega
      have q4 : ¬ ((na : Int) < (sy5 : Int)) := by omega
      go_wp2_with fail
      refine (synced_any w.heap.size g bo bn sy5 v5 L' _ hs6).mono ?_
      rintro e wz ⟨rfl, rfl⟩
      go_wp2_with fail
      refine (synced_any w.heap.size g bo bn sy5 v5 L' _ hs6).mono ?_
      rintro e wz ⟨rfl, rfl⟩
      go_wp2_with fail
      have hdr6 : Below w6.heap.size w6 w6.drew := Below.drew (Below.refl w6.heap.size w6)
      have hS6 : GrowS A4 c4 A6 c6 nb na sy5 lb la w6.drew := growS HNB.out HNA.out HTK.out hnab hsy5n (hr6.later hdr6) (hra.later hdr6)
      have hB6d := blater hB6 (Nat.le_refl _) hdr6
      have hs6d := hs6.later hdr6
      have hop6d := hop6.turn (Turn.of_below (far g bo bn v5) hdr6) (fun i hi => .inl hi)
      have hr6d := hr6.later hdr6
      have hrad := hra.later hdr6
      obtain ⟨lt, hlt5⟩ : ∃ l, la.take sy5 = l := ⟨_, rfl⟩
      have HLT := Lib.hid hlt5
      have hltn := Lib.hid (show lt.length = sy5 by rw [← hlt5, List.length_take, HNA.out]; omega)
      have y1 : (0 : Int) ≤ (nb : Int) := by omega
      have y2 : (nb : Int) ≤ (c6 : Int) := by omega
      have y3 : nb ≤ c6 := by omega
      have y4 : (0 : Int) ≤ (sy5 : Int) := by omega
      have y5 : (sy5 : Int) ≤ (c6 : Int) := by omega
      have y6 : sy5 ≤ c6 := by omega
      clear hdr6 hr6 hra hs6 hop6 hB6 hlt5
      refine wp_region_held_drew (S := GrowS A4 c4 A6 c6 nb na sy5 lb la) (by kernel_rfl) hS6 (fun hHeld => ?_)
      clear hHeld
      (try simp only [Act.put, List.setIfInBounds_toArray, List.set_cons_zero, List.set_cons_succ])
      refine wpAnyH_take (i := 0) (oi := { dst := some 54, op := Op.move (Operand.tmp 8), type := 22, pos := _, after := #[], guard := none }) (v := ?_) rfl (by kernel_rfl) (by kernel_rfl) (by kernel_rfl) (fun _ _ _ h => h) (Or.inl ⟨by rfl, ?_⟩) hS6 ?_
      rotate_left
      · intro w hSw; obtain ⟨z1, z2, z3, z4⟩ := hSw; go_simp; try with_reducible rfl
      (try simp only [Act.put, List.setIfInBounds_toArray, List.set_cons_zero, List.set_cons_succ])
      refine wpAnyH_take (i := 1) (oi := { dst := some 55, op := Op.move (Operand.tmp 6), type := 22, pos := _, after := #[], guard := none }) (v := ?_) rfl (by kernel_rfl) (by kernel_rfl) (by kernel_rfl) (fun _ _ _ h => h) (Or.inl ⟨by rfl, ?_⟩) hS6 ?_
      rotate_left
      · intro w hSw; obtain ⟨z1, z2, z3, z4⟩ := hSw; go_simp; try with_reducible rfl
      (try simp only [Act.put, List.setIfInBounds_toArray, List.set_cons_zero, List.set_cons_succ])
      refine wpAnyH_take (i := 2) (oi := { dst := some 56, op := Op.call { callee := Callee.builtin Builtin.len, args := #[Operand.tmp 55], argTypes := #[22] }, type := 3, pos := _, after := #[{ on := 1, ground := Ground.data }], guard := none }) (v := ?_) rfl (by kernel_rfl) (by kernel_rfl) (by kernel_rfl) (fun _ _ _ h => h) (Or.inl ⟨by rfl, ?_⟩) hS6 ?_
      rotate_left
      · intro w hSw; obtain ⟨z1, z2, z3, z4⟩ := hSw; go_simp; try with_reducible rfl
      (try simp only [Act.put, List.setIfInBounds_toArray, List.set_cons_zero, List.set_cons_succ])
      refine wpAnyH_take (i := 3) (oi := { dst := some 57, op := Op.slice 22 (Operand.tmp 54) none (some (Operand.tmp 56)) none, type := 22, pos := _, after := #[{ on := 0, ground := Ground.data }, { on := 2, ground := Ground.data }], guard := none }) (v := ?_) rfl (by kernel_rfl) (by kernel_rfl) (by kernel_rfl) (fun _ _ _ h => h) (Or.inl ⟨by rfl, ?_⟩) hS6 ?_
      rotate_left
      · intro w hSw; obtain ⟨z1, z2, z3, z4⟩ := hSw; go_simp; try with_reducible rfl
      (try simp only [Act.put, List.setIfInBounds_toArray, List.set_cons_zero, List.set_cons_succ])
      refine wpAnyH_take (i := 5) (oi := { dst := some 59, op := Op.move (Operand.tmp 6), type := 22, pos := _, after := #[], guard := none }) (v := ?_) rfl (by kernel_rfl) (by kernel_rfl) (by kernel_rfl) (fun _ _ _ h => h) (Or.inl ⟨by rfl, ?_⟩) hS6 ?_
      rotate_left
      · intro w hSw; obtain ⟨z1, z2, z3, z4⟩ := hSw; go_simp; try with_reducible rfl
      (try simp only [Act.put, List.setIfInBounds_toArray, List.set_cons_zero, List.set_cons_succ])
      refine wpAnyH_take (i := 4) (oi := { dst := some 58, op := Op.convert 22 9 (Operand.tmp 57), type := 9, pos := _, after := #[{ on := 3, ground := Ground.data }], guard := none }) (v := ?_) rfl (by kernel_rfl) (by kernel_rfl) (by kernel_rfl) (fun _ _ _ h => h) (Or.inl ⟨by rfl, ?_⟩) hS6 ?_
      rotate_left
      · intro w hSw; obtain ⟨z1, z2, z3, z4⟩ := hSw; go_simp; try with_reducible rfl
      (try simp only [Act.put, List.setIfInBounds_toArray, List.set_cons_zero, List.set_cons_succ])
      refine wpAnyH_take (i := 6) (oi := { dst := some 60, op := Op.convert 22 9 (Operand.tmp 59), type := 9, pos := _, after := #[{ on := 5, ground := Ground.data }], guard := none }) (v := ?_) rfl (by kernel_rfl) (by kernel_rfl) (by kernel_rfl) (fun _ _ _ h => h) (Or.inl ⟨by rfl, ?_⟩) hS6 ?_
      rotate_left
      · intro w hSw; obtain ⟨z1, z2, z3, z4⟩ := hSw; go_simp; try with_reducible rfl
      (try simp only [Act.put, List.setIfInBounds_toArray, List.set_cons_zero, List.set_cons_succ])
      refine wpAnyH_take (i := 7) (oi := { dst := some 61, op := Op.binOp BinOp.neq 9 (Operand.tmp 58) (Operand.tmp 60) 9, type := 4, pos := _, after := #[{ on := 4, ground := Ground.data }, { on := 6, ground := Ground.data }], guard := none }) (v := ?_) rfl (by kernel_rfl) (by kernel_rfl) (by kernel_rfl) (fun _ _ _ h => h) (Or.inl ⟨by rfl, ?_⟩) hS6 ?_
      rotate_left
      · intro w hSw; obtain ⟨z1, z2, z3, z4⟩ := hSw; go_simp; try with_reducible rfl
      (try simp only [Act.put, List.setIfInBounds_toArray, List.set_cons_zero, List.set_cons_succ])
      refine wpAnyH_take (i := 8) (oi := { dst := some 62, op := Op.move (Operand.tmp 61), type := 4, pos := _, after := #[{ on := 7, ground := Ground.data }], guard := none }) (v := ?_) rfl (by kernel_rfl) (by kernel_rfl) (by kernel_rfl) (fun _ _ _ h => h) (Or.inl ⟨by rfl, ?_⟩) hS6 ?_
      rotate_left
      · intro w hSw; obtain ⟨z1, z2, z3, z4⟩ := hSw; go_simp; try with_reducible rfl
      (try simp only [Act.put, List.setIfInBounds_toArray, List.set_cons_zero, List.set_cons_succ])
      refine wpAnyH_take (i := 9) (oi := { dst := some 63, op := Op.move (Operand.tmp 3), type := 25, pos := _, after := #[{ on := 8, ground := Ground.guard }], guard := some (8, false) }) (v := ?_) rfl (by kernel_rfl) (by kernel_rfl) (by kernel_rfl) (fun _ _ _ h => h) (Or.inl ⟨by rfl, ?_⟩) hS6 ?_
      rotate_left
      · intro w hSw; obtain ⟨z1, z2, z3, z4⟩ := hSw; go_simp; try with_reducible rfl
      (try simp only [Act.put, List.setIfInBounds_toArray, List.set_cons_zero, List.set_cons_succ])
      refine wpAnyH_take (i := 10) (oi := { dst := some 64, op := Op.move (Operand.tmp 8), type := 22, pos := _, after := #[{ on := 8, ground := Ground.guard }], guard := some (8, false) }) (v := ?_) rfl (by kernel_rfl) (by kernel_rfl) (by kernel_rfl) (fun _ _ _ h => h) (Or.inl ⟨by rfl, ?_⟩) hS6 ?_
      rotate_left
      · intro w hSw; obtain ⟨z1, z2, z3, z4⟩ := hSw; go_simp; try with_reducible rfl
      (try simp only [Act.put, List.setIfInBounds_toArray, List.set_cons_zero, List.set_cons_succ])
      refine wpAnyH_take (i := 11) (oi := { dst := some 65, op := Op.call { callee := Callee.builtin Builtin.len, args := #[Operand.tmp 64], argTypes := #[22] }, type := 3, pos := _, after := #[{ on := 10, ground := Ground.data }, { on := 8, ground := Ground.guard }], guard := some (8, false) }) (v := ?_) rfl (by kernel_rfl) (by kernel_rfl) (by kernel_rfl) (fun _ _ _ h => h) (Or.inl ⟨by rfl, ?_⟩) hS6 ?_
      rotate_left
      · intro w hSw; obtain ⟨z1, z2, z3, z4⟩ := hSw; go_simp; try with_reducible rfl
      (try simp only [Act.put, List.setIfInBounds_toArray, List.set_cons_zero, List.set_cons_succ])
      refine wpAnyH_take (i := 14) (oi := { dst := some 68, op := Op.move (Operand.tmp 8), type := 22, pos := _, after := #[{ on := 8, ground := Ground.guard }], guard := some (8, false) }) (v := ?_) rfl (by kernel_rfl) (by kernel_rfl) (by kernel_rfl) (fun _ _ _ h => h) (Or.inl ⟨by rfl, ?_⟩) hS6 ?_
      rotate_left
      · intro w hSw; obtain ⟨z1, z2, z3, z4⟩ := hSw; go_simp; try with_reducible rfl
      (try simp only [Act.put, List.setIfInBounds_toArray, List.set_cons_zero, List.set_cons_succ])
      refine wpAnyH_take (i := 15) (oi := { dst := some 69, op := Op.convert 22 9 (Operand.tmp 68), type := 9, pos := _, after := #[{ on := 14, ground := Ground.data }, { on := 8, ground := Ground.guard }], guard := some (8, false) }) (v := ?_) rfl (by kernel_rfl) (by kernel_rfl) (by kernel_rfl) (fun _ _ _ h => h) (Or.inl ⟨by rfl, ?_⟩) hS6 ?_
      rotate_left
      · intro w hSw; obtain ⟨z1, z2, z3, z4⟩ := hSw; go_simp; try with_reducible rfl
      (try simp only [Act.put, List.setIfInBounds_toArray, List.set_cons_zero, List.set_cons_succ])
      refine wpAnyH_ready (rs := [12]) (by kernel_rfl) (by simp) (AllReadyH.cons (o := { dst := some 66, op := Op.call { callee := Callee.value (Operand.func 30), args := #[Operand.tmp 63, Operand.tmp 65], argTypes := #[25, 3] }, type := 22, pos := _, after := #[{ on := 9, ground := Ground.data }, { on := 11, ground := Ground.data }, { on := 8, ground := Ground.chain }, { on := 8, ground := Ground.guard }], guard := some (8, false) }) rfl (fun K hK => ?_) AllReadyH.nil)
      go_simp
      go_at_call 30
      refine (crash_any w.heap.size g bo bn sy5 na na (na : Int) (by omega) (by omega) v5 L' ban.out (by omega) _ hs6d).mono ?_
      rintro e w7 ⟨A7, c7, rfl, _, hown7, hd7⟩
      have hs7 := hs6d.later hd7
      have hr7 := hr6d.later hd7
      have hra7 := hrad.later hd7
      have hB7 := blater hB6d (Nat.le_refl _) hd7
      have hop7 := hop6d.turn (Turn.of_below (far g bo bn v5) hd7) (fun i hi => .inl hi)
      have hS7 : GrowS A4 c4 A6 c6 nb na sy5 lb la w7 := growS HNB.out HNA.out HTK.out hnab hsy5n hr7 hra7
      rw [HLA.out, List.take_of_length_le (by rw [HNA.out]; exact Nat.le_refl _)] at hown7
      have hcv7 := conv_string w7 A7 na c7 la HNA.out (Reads.of_own hown7)
      go_simp
      refine hK.out _ _ hS7 (fun hHeld => ?_)
      clear hK K hHeld
      (try simp only [Act.put, List.setIfInBounds_toArray, List.set_cons_zero, List.set_cons_succ])
      refine wpAnyH_ready (rs := [13]) (by kernel_rfl) (by simp) (AllReadyH.cons (o := { dst := some 67, op := Op.convert 22 9 (Operand.tmp 66), type := 9, pos := _, after := #[{ on := 12, ground := Ground.data }, { on := 8, ground := Ground.guard }], guard := some (8, false) }) rfl (fun K hK => ?_) AllReadyH.nil)
      go_simp
      refine hK.out _ _ hS7 (fun hHeld => ?_)
      clear hK K hHeld
      (try simp only [Act.put, List.setIfInBounds_toArray, List.set_cons_zero, List.set_cons_succ])
      refine wpAnyH_take (i := 16) (oi := { dst := some 70, op := Op.binOp BinOp.neq 9 (Operand.tmp 67) (Operand.tmp 69) 9, type := 4, pos := _, after := #[{ on := 13, ground := Ground.data }, { on := 15, ground := Ground.data }, { on := 8, ground := Ground.guard }], guard := some (8, false) }) (v := ?_) rfl (by kernel_rfl) (by kernel_rfl) (by kernel_rfl) (fun _ _ _ h => h) (Or.inl ⟨by rfl, ?_⟩) hS7 ?_
      rotate_left
      · intro w hSw; obtain ⟨z1, z2, z3, z4⟩ := hSw; go_simp; try with_reducible rfl
      (try simp only [Act.put, List.setIfInBounds_toArray, List.set_cons_zero, List.set_cons_succ])
      refine wpAnyH_take (i := 17) (oi := { dst := some 71, op := Op.pick (Operand.tmp 62) (Operand.const (Value.bool true)) (Operand.tmp 70), type := 4, pos := _, after := #[{ on := 8, ground := Ground.data }, { on := 16, ground := Ground.data }], guard := none }) (v := ?_) rfl (by kernel_rfl) (by kernel_rfl) (by kernel_rfl) (fun _ _ _ h => h) (Or.inl ⟨by rfl, ?_⟩) hS7 ?_
      rotate_left
      · intro w hSw; obtain ⟨z1, z2, z3, z4⟩ := hSw; go_simp; try with_reducible rfl
      (try simp only [Act.put, List.setIfInBounds_toArray, List.set_cons_zero, List.set_cons_succ])
      refine wpAnyH_take (i := 18) (oi := { dst := some 72, op := Op.move (Operand.tmp 71), type := 4, pos := _, after := #[{ on := 17, ground := Ground.data }, { on := 12, ground := Ground.chain }], guard := none }) (v := ?_) rfl (by kernel_rfl) (by kernel_rfl) (by kernel_rfl) (fun _ _ _ h => h) (Or.inl ⟨by rfl, ?_⟩) hS7 ?_
      rotate_left
      · intro w hSw; obtain ⟨z1, z2, z3, z4⟩ := hSw; go_simp; try with_reducible rfl
      (try simp only [Act.put, List.setIfInBounds_toArray, List.set_cons_zero, List.set_cons_succ])
      refine wpAnyH_take (i := 19) (oi := { dst := some 73, op := Op.move (Operand.tmp 3), type := 25, pos := _, after := #[{ on := 18, ground := Ground.guard }], guard := some (18, false) }) (v := ?_) rfl (by kernel_rfl) (by kernel_rfl) (by kernel_rfl) (fun _ _ _ h => h) (Or.inl ⟨by rfl, ?_⟩) hS7 ?_
      rotate_left
      · intro w hSw; obtain ⟨z1, z2, z3, z4⟩ := hSw; go_simp; try with_reducible rfl
      (try simp only [Act.put, List.setIfInBounds_toArray, List.set_cons_zero, List.set_cons_succ])
      refine wpAnyH_take (i := 22) (oi := { dst := some 76, op := Op.move (Operand.tmp 8), type := 22, pos := _, after := #[{ on := 18, ground := Ground.guard }], guard := some (18, false) }) (v := ?_) rfl (by kernel_rfl) (by kernel_rfl) (by kernel_rfl) (fun _ _ _ h => h) (Or.inl ⟨by rfl, ?_⟩) hS7 ?_
      rotate_left
      · intro w hSw; obtain ⟨z1, z2, z3, z4⟩ := hSw; go_simp; try with_reducible rfl
      (try simp only [Act.put, List.setIfInBounds_toArray, List.set_cons_zero, List.set_cons_succ])
      refine wpAnyH_take (i := 23) (oi := { dst := some 77, op := Op.move (Operand.tmp 3), type := 25, pos := _, after := #[{ on := 18, ground := Ground.guard }], guard := some (18, false) }) (v := ?_) rfl (by kernel_rfl) (by kernel_rfl) (by kernel_rfl) (fun _ _ _ h => h) (Or.inl ⟨by rfl, ?_⟩) hS7 ?_
      rotate_left
      · intro w hSw; obtain ⟨z1, z2, z3, z4⟩ := hSw; go_simp; try with_reducible rfl
      (try simp only [Act.put, List.setIfInBounds_toArray, List.set_cons_zero, List.set_cons_succ])
      refine wpAnyH_ready (rs := [20]) (by kernel_rfl) (by simp) (AllReadyH.cons (o := { dst := some 74, op := Op.call { callee := Callee.value (Operand.func 30), args := #[Operand.tmp 73, Operand.const (Value.int IntKind.i64 (-1))], argTypes := #[25, 3] }, type := 22, pos := _, after := #[{ on := 19, ground := Ground.data }, { on := 18, ground := Ground.chain }, { on := 18, ground := Ground.guard }], guard := some (18, false) }) rfl (fun K hK => ?_) AllReadyH.nil)
      go_simp
      go_at_call 30
      refine (crash_any w.heap.size g bo bn sy5 na sy5 (-1) (by omega) (by omega) v5 L' ban.out (by omega) _ hs7).mono ?_
      rintro e w8 ⟨A8, c8, rfl, _, hown8, hd8⟩
      have hs8 := hs7.later hd8
      have hr8 := hr7.later hd8
      have hra8 := hra7.later hd8
      have hB8 := blater hB7 (Nat.le_refl _) hd8
      have hop8 := hop7.turn (Turn.of_below (far g bo bn v5) hd8) (fun i hi => .inl hi)
      have hS8 : GrowS A4 c4 A6 c6 nb na sy5 lb la w8 := growS HNB.out HNA.out HTK.out hnab hsy5n hr8 hra8
      rw [HLA.out, HLT.out] at hown8
      have hcv8 := conv_string w8 A8 sy5 c8 lt hltn.out (Reads.of_own hown8)
      have hlt8 := HLT.out
      go_simp
      refine hK.out _ _ hS8 (fun hHeld => ?_)
      clear hK K hHeld
      (try simp only [Act.put, List.setIfInBounds_toArray, List.set_cons_zero, List.set_cons_succ])
      refine wpAnyH_ready (rs := [21, 24]) (by kernel_rfl) (by simp) (AllReadyH.cons (o := { dst := some 75, op := Op.convert 22 9 (Operand.tmp 74), type := 9, pos := _, after := #[{ on := 20, ground := Ground.data }, { on := 18, ground := Ground.guard }], guard := some (18, false) }) rfl (fun K hK => ?_) (AllReadyH.cons (o := { dst := some 78, op := Op.call { callee := Callee.value (Operand.func 29), args := #[Operand.tmp 77], argTypes := #[25] }, type := 3, pos := _, after := #[{ on := 23, ground := Ground.data }, { on := 20, ground := Ground.chain }, { on := 18, ground := Ground.guard }], guard := some (18, false) }) rfl (fun K hK => ?_) AllReadyH.nil))
      · go_simp
        refine hK.out _ _ hS8 (fun hHeld => ?_)
        clear hK K hHeld
        (try simp only [Act.put, List.setIfInBounds_toArray, List.set_cons_zero, List.set_cons_succ])
        refine wpAnyH_ready (rs := [24]) (by kernel_rfl) (by simp) (AllReadyH.cons (o := { dst := some 78, op := Op.call { callee := Callee.value (Operand.func 29), args := #[Operand.tmp 77], argTypes := #[25] }, type := 3, pos := _, after := #[{ on := 23, ground := Ground.data }, { on := 20, ground := Ground.chain }, { on := 18, ground := Ground.guard }], guard := some (18, false) }) rfl (fun K hK => ?_) AllReadyH.nil)
        go_simp
        go_at_call 29
        refine (synced_any w.heap.size g bo bn sy5 v5 L' _ hs8).mono ?_
        rintro e wz ⟨rfl, rfl⟩
        go_simp
        refine hK.out _ _ hS8 (fun hHeld => ?_)
        clear hK K hHeld
        (try simp only [Act.put, List.setIfInBounds_toArray, List.set_cons_zero, List.set_cons_succ])
        refine wpAnyH_take (i := 25) (oi := { dst := some 79, op := Op.slice 22 (Operand.tmp 76) none (some (Operand.tmp 78)) none, type := 22, pos := _, after := #[{ on := 22, ground := Ground.data }, { on := 24, ground := Ground.data }, { on := 18, ground := Ground.guard }], guard := some (18, false) }) (v := ?_) rfl (by kernel_rfl) (by kernel_rfl) (by kernel_rfl) (fun _ _ _ h => h) (Or.inl ⟨by rfl, ?_⟩) hS8 ?_
        rotate_left
        · intro w hSw; obtain ⟨z1, z2, z3, z4⟩ := hSw; go_simp; try with_reducible rfl
        (try simp only [Act.put, List.setIfInBounds_toArray, List.set_cons_zero, List.set_cons_succ])
        refine wpAnyH_take (i := 26) (oi := { dst := some 80, op := Op.convert 22 9 (Operand.tmp 79), type := 9, pos := _, after := #[{ on := 25, ground := Ground.data }, { on := 18, ground := Ground.guard }], guard := some (18, false) }) (v := ?_) rfl (by kernel_rfl) (by kernel_rfl) (by kernel_rfl) (fun _ _ _ h => h) (Or.inl ⟨by rfl, ?_⟩) hS8 ?_
        rotate_left
        · intro w hSw; obtain ⟨z1, z2, z3, z4⟩ := hSw; go_simp; try with_reducible rfl
        (try simp only [Act.put, List.setIfInBounds_toArray, List.set_cons_zero, List.set_cons_succ])
        refine wpAnyH_take (i := 27) (oi := { dst := some 81, op := Op.binOp BinOp.neq 9 (Operand.tmp 75) (Operand.tmp 80) 9, type := 4, pos := _, after := #[{ on := 21, ground := Ground.data }, { on := 26, ground := Ground.data }, { on := 18, ground := Ground.guard }], guard := some (18, false) }) (v := ?_) rfl (by kernel_rfl) (by kernel_rfl) (by kernel_rfl) (fun _ _ _ h => h) (Or.inl ⟨by rfl, ?_⟩) hS8 ?_
        rotate_left
        · intro w hSw; obtain ⟨z1, z2, z3, z4⟩ := hSw; go_simp; try with_reducible rfl
        (try simp only [Act.put, List.setIfInBounds_toArray, List.set_cons_zero, List.set_cons_succ])
        refine wpAnyH_take (i := 28) (oi := { dst := some 82, op := Op.pick (Operand.tmp 72) (Operand.const (Value.bool true)) (Operand.tmp 81), type := 4, pos := _, after := #[{ on := 18, ground := Ground.data }, { on := 27, ground := Ground.data }], guard := none }) (v := ?_) rfl (by kernel_rfl) (by kernel_rfl) (by kernel_rfl) (fun _ _ _ h => h) (Or.inl ⟨by rfl, ?_⟩) hS8 ?_
        rotate_left
        · intro w hSw; obtain ⟨z1, z2, z3, z4⟩ := hSw; go_simp; try with_reducible rfl
        (try simp only [Act.put, List.setIfInBounds_toArray, List.set_cons_zero, List.set_cons_succ])
        refine wpAnyH_done (by kernel_rfl) ?_ _
        clear hcv7 hcv8 hlt8 q1 q2 q3 q4 y1 y2 y3 y4 y5 y6
        go_wp2_with fail
        go_roundw
        case rel => exact ⟨i + 1, v5, L', sy5, by omega, by go_num, by omega, hs8, hop8, hB8⟩
        case measure => simp [intOf]; omega
      · go_simp
        go_at_call 29
        refine (synced_any w.heap.size g bo bn sy5 v5 L' _ hs8).mono ?_
        rintro e wz ⟨rfl, rfl⟩
        go_simp
        refine hK.out _ _ hS8 (fun hHeld => ?_)
        clear hK K hHeld
        (try simp only [Act.put, List.setIfInBounds_toArray, List.set_cons_zero, List.set_cons_succ])
        refine wpAnyH_take (i := 25) (oi := { dst := some 79, op := Op.slice 22 (Operand.tmp 76) none (some (Operand.tmp 78)) none, type := 22, pos := _, after := #[{ on := 22, ground := Ground.data }, { on := 24, ground := Ground.data }, { on := 18, ground := Ground.guard }], guard := some (18, false) }) (v := ?_) rfl (by kernel_rfl) (by kernel_rfl) (by kernel_rfl) (fun _ _ _ h => h) (Or.inl ⟨by rfl, ?_⟩) hS8 ?_
        rotate_left
        · intro w hSw; obtain ⟨z1, z2, z3, z4⟩ := hSw; go_simp; try with_reducible rfl
        (try simp only [Act.put, List.setIfInBounds_toArray, List.set_cons_zero, List.set_cons_succ])
        refine wpAnyH_take (i := 26) (oi := { dst := some 80, op := Op.convert 22 9 (Operand.tmp 79), type := 9, pos := _, after := #[{ on := 25, ground := Ground.data }, { on := 18, ground := Ground.guard }], guard := some (18, false) }) (v := ?_) rfl (by kernel_rfl) (by kernel_rfl) (by kernel_rfl) (fun _ _ _ h => h) (Or.inl ⟨by rfl, ?_⟩) hS8 ?_
        rotate_left
        · intro w hSw; obtain ⟨z1, z2, z3, z4⟩ := hSw; go_simp; try with_reducible rfl
        (try simp only [Act.put, List.setIfInBounds_toArray, List.set_cons_zero, List.set_cons_succ])
        refine wpAnyH_ready (rs := [21]) (by kernel_rfl) (by simp) (AllReadyH.cons (o := { dst := some 75, op := Op.convert 22 9 (Operand.tmp 74), type := 9, pos := _, after := #[{ on := 20, ground := Ground.data }, { on := 18, ground := Ground.guard }], guard := some (18, false) }) rfl (fun K hK => ?_) AllReadyH.nil)
        go_simp
        refine hK.out _ _ hS8 (fun hHeld => ?_)
        clear hK K hHeld
        (try simp only [Act.put, List.setIfInBounds_toArray, List.set_cons_zero, List.set_cons_succ])
        refine wpAnyH_take (i := 27) (oi := { dst := some 81, op := Op.binOp BinOp.neq 9 (Operand.tmp 75) (Operand.tmp 80) 9, type := 4, pos := _, after := #[{ on := 21, ground := Ground.data }, { on := 26, ground := Ground.data }, { on := 18, ground := Ground.guard }], guard := some (18, false) }) (v := ?_) rfl (by kernel_rfl) (by kernel_rfl) (by kernel_rfl) (fun _ _ _ h => h) (Or.inl ⟨by rfl, ?_⟩) hS8 ?_
        rotate_left
        · intro w hSw; obtain ⟨z1, z2, z3, z4⟩ := hSw; go_simp; try with_reducible rfl
        (try simp only [Act.put, List.setIfInBounds_toArray, List.set_cons_zero, List.set_cons_succ])
        refine wpAnyH_take (i := 28) (oi := { dst := some 82, op := Op.pick (Operand.tmp 72) (Operand.const (Value.bool true)) (Operand.tmp 81), type := 4, pos := _, after := #[{ on := 18, ground := Ground.data }, { on := 27, ground := Ground.data }], guard := none }) (v := ?_) rfl (by kernel_rfl) (by kernel_rfl) (by kernel_rfl) (fun _ _ _ h => h) (Or.inl ⟨by rfl, ?_⟩) hS8 ?_
        rotate_left
        · intro w hSw; obtain ⟨z1, z2, z3, z4⟩ := hSw; go_simp; try with_reducible rfl
        (try simp only [Act.put, List.setIfInBounds_toArray, List.set_cons_zero, List.set_cons_succ])
        refine wpAnyH_done (by kernel_rfl) ?_ _
        clear hcv7 hcv8 hlt8 q1 q2 q3 q4 y1 y2 y3 y4 y5 y6
        go_wp2_with fail
        go_roundw
        case rel => exact ⟨i + 1, v5, L', sy5, by omega, by go_num, by omega, hs8, hop8, hB8⟩
        case measure => simp [intOf]; omega
    · have hi2' : (n : Int) ≤ (i : Int) := by omega
      go_wp2_with fail
      refine (lives_any _).mono ?_
      rintro e w8 ⟨rfl, hd8⟩
      have hb8 := blater hB (Nat.le_refl _) hd8
      go_wp2_with fail
      go_ret
      exact ⟨rfl, hb8⟩
end Go.Proofs.Ytfanhbemmjcomaa
