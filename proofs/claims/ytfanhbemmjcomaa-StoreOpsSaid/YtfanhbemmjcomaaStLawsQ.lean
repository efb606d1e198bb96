/- The law StoreOps, walked. -/
import Derived.Test.YtfanhbemmjcomaaStBox
namespace Go.Proofs.Ytfanhbemmjcomaa
open Go.RowKit
set_option linter.unusedVariables false

theorem S.doo_ext (L : List S.R) (o : S.O) : ∃ e, (S.doo L o).1 = L ++ e := by
  unfold S.doo
  split
  · unfold S.put
    split
    · exact ⟨[], by rw [List.append_nil]⟩
    · split
      · split
        · exact ⟨[], by rw [List.append_nil]⟩
        · exact ⟨[], by rw [List.append_nil]⟩
      · exact ⟨_, rfl⟩
  · split
    · unfold S.bind
      split
      · exact ⟨[], by rw [List.append_nil]⟩
      · split
        · exact ⟨[], by rw [List.append_nil]⟩
        · exact ⟨_, rfl⟩
    · exact ⟨[], by rw [List.append_nil]⟩
/-- What is permanent, behind an operation: told by records and by bytes. -/
theorem S.doo_sync {L : List S.R} {o : S.O} {n sc sy : Nat} (hn : L.length = n) (hsc : sc ≤ n) (hsy : (S.log (L.take sc)).length = sy) :
    (if o.kind = 2 then n else sc) ≤ (S.doo L o).1.length ∧ (S.log ((S.doo L o).1.take (if o.kind = 2 then n else sc))).length = if o.kind = 2 then (S.log L).length else sy := by
  obtain ⟨e, he⟩ := S.doo_ext L o
  rw [he, List.length_append]
  by_cases h : o.kind = 2
  · rw [if_pos h, if_pos h, ← hn, List.take_left]
    exact ⟨by omega, rfl⟩
  · rw [if_neg h, if_neg h, List.take_append_of_le_length (by omega)]
    exact ⟨by omega, hsy⟩
/-- The store's blocks and the box of the reference's store. -/
def farB (g bo bn : Nat) (v : Value) (gB : Nat) (b : Nat) : Prop := far g bo bn v b ∨ b = gB
theorem Turn.wide {F G : Nat → Prop} {a b : World} (h : Turn F a b) (hG : ∀ i, F i → G i) : Turn G a b := ⟨h.os, h.tape, h.output, h.size, fun i hi hn => h.block i hi (fun hf => hn (hG i hf))⟩

/-- What the region reads: the box, the operation. -/
def OpS (gB ga i : Nat) (A : Option Addr) (n cap sc kk : Nat) (Ab : Option Addr) (kl cb : Nat) (nm : UInt64) (kn : Nat) (W : World) : Prop :=
  W.cell? ⟨gB, 0, none⟩ = some (.slice A n cap) ∧ W.cell? ⟨gB, 1, none⟩ = some (.int .i64 (sc : Int)) ∧ W.cell? ⟨ga, i * 4, none⟩ = some (.int .i64 (kk : Int)) ∧ W.cell? ⟨ga, i * 4 + 1, none⟩ = some (.slice Ab kl cb) ∧ W.cell? ⟨ga, i * 4 + 2, none⟩ = some (.int .u64 (nm.toNat : Int)) ∧ W.cell? ⟨ga, i * 4 + 3, none⟩ = some (.int .i64 (kn : Int))
theorem opS {gB ga i : Nat} {A : Option Addr} {n cap sc kk : Nat} {Ab : Option Addr} {kl cb : Nat} {nm : UInt64} {kn : Nat} {W W' : World} {B : Nat} (hb : Below B W W') (hB : B = W.heap.size) (h : OpS gB ga i A n cap sc kk Ab kl cb nm kn W) : OpS gB ga i A n cap sc kk Ab kl cb nm kn W' := by
  subst hB
  obtain ⟨h1, h2, h3, h4, h5, h6⟩ := h
  exact ⟨(hb.cell (cell_lt h1)).trans h1, (hb.cell (cell_lt h2)).trans h2, (hb.cell (cell_lt h3)).trans h3, (hb.cell (cell_lt h4)).trans h4, (hb.cell (cell_lt h5)).trans h5, (hb.cell (cell_lt h6)).trans h6⟩

set_option maxRecDepth 10000 in
set_option maxHeartbeats 8000000 in
theorem storeOps_walk (a : Option Addr) (len cap : Nat) (zs : List Int) (x y : Int) (w : World) (hr : IsRow .i64 w a len cap zs) (hx : (Lit.int .u64 x).wf = true) (hy : (Lit.int .u64 y).wf = true) :
    Calls Try.prog 4 #[.slice a len cap, .int .u64 x, .int .u64 y] w fun e W' => e = .returned (.bool true) ∧ Below w.heap.size w W' := by
  obtain ⟨kx, rfl⟩ := wf_u64 hx
  obtain ⟨ky, rfl⟩ := wf_u64 hy
  obtain ⟨ks, hkl, hlc, hcm, hrd, hwf⟩ := isRow_ints hr
  have hops := fun W (h : Reads W W.heap.size 1 a len (iv ks)) => ops_any a len cap ks hkl (by omega) (fun n hn => wf_bd (hwf n hn)) W h
  have HOPS := Lib.hid hops
  have HRD := Lib.hid hrd
  clear hops hkl hlc hcm hwf hr hrd
  go_enter Try.func4, Try.ntmps4
  go_wp2_with fail
  refine (new_any w).mono ?_
  rintro e w1 ⟨g, bo, bn, rfl, hs1, hb1⟩
  obtain ⟨wb, hwb⟩ : ∃ x, w1.alloc (.cells #[.slice none 0 0, .int .i64 0] 43) = x := ⟨_, rfl⟩
  have db : Below w1.heap.size w1 wb := by rw [← hwb]; exact (Below.refl _ _).alloc (Nat.le_refl _) _
  have tb := Two.new w1 43 (.slice none 0 0) (.int .i64 0)
  rw [hwb] at tb
  have hbb := blater hb1 (Nat.le_refl _) db
  obtain ⟨gB, hgB⟩ : ∃ x, w1.heap.size = x := ⟨_, rfl⟩
  have hgw : w.heap.size ≤ gB := by rw [← hgB]; exact hb1.size
  have hsb := hs1.later db
  have hnf : ∀ i, far g bo bn (.slice none 0 0) i → i < gB := fun i hi => by rw [← hgB]; exact hs1.far_lt i hi
  rw [hgB] at tb
  clear hs1 db hb1
  go_wp2_with fail
  try rw [hwb]
  clear hwb
  refine (HOPS.out _ (HRD.out.later hbb)).mono ?_
  rintro e w2 ⟨A0, n0, c0', ops, rfl, hnc, hn16, hop, hok, hd2⟩
  have hs2 := hsb.later hd2
  have hb2 := blater hbb (Nat.le_refl _) hd2
  have tb2 := tb.below hd2
  have hop2 := hop.weaken (G := farB g bo bn (.slice none 0 0) gB) (fun i hi => by
    rcases hi with hi | hi
    · exact hsb.far_lt i hi
    · subst hi; exact tb.lt)
  have HOK := Lib.hid hok
  have hnB : ¬ far g bo bn (.slice none 0 0) gB := fun h => by have := hnf _ h; omega
  clear hd2 hop hok hbb HOPS HRD hsb tb hnf hgB
  go_wp2_with fail
  go_loopw [10] (fun ix wr => ∃ (i : Nat) (v : Value) (L : List S.R) (sy : Nat) (A : Option Addr) (n cap sc : Nat), i ≤ n0 ∧ ix = .int .i64 (i : Int) ∧ L.length ≤ i ∧ StAt wr w.heap.size g bo bn v L sy ∧ OpsAt wr (farB g bo bn v gB) A0 n0 ops ∧ Two wr gB 43 (.slice A n cap) (.int .i64 (sc : Int)) ∧ RefAt wr (farB g bo bn v gB) A n L ∧ n ≤ cap ∧ sc ≤ n ∧ Hid ((S.log (L.take sc)).length = sy) ∧ ¬ far g bo bn v gB ∧ Below w.heap.size w wr) (fun ix _ => n0 - (intOf ix).toNat)
  case atStart => exact ⟨0, _, [], 0, none, 0, 0, 0, Nat.zero_le _, rfl, Nat.le_refl _, hs2, hop2, tb2, RefAt.nil _ _, Nat.le_refl _, Nat.le_refl _, Lib.hid rfl, hnB, hb2⟩
  case round =>
    obtain ⟨i, v, L, sy, A, n, cap, sc, hi1, rfl, hLi, hs, hop, tB, hrf, hnc2, hscn, hsy, hnB, hB⟩ := hrel
    clear hs2 hop2 tb2 hb2
    have hLn := hrf.1
    by_cases hlt : i < n0
    · obtain ⟨ga, o, Ab, cb, rfl, hfg, hgl, ho, c0, c1, c2, c3, hrb, hAb⟩ := op_at hop hlt
      have hoo := HOK.out o (List.mem_of_getElem? ho)
      have hln := S.doo_len L o
      have hsn := S.doo_sync (o := o) hLn hscn hsy.out
      obtain ⟨⟨L', k, er⟩, hR⟩ : ∃ r, S.doo L o = r := ⟨_, rfl⟩
      rw [hR] at hln hsn
      have hln : L'.length ≤ L.length + 1 := hln
      obtain ⟨kl, hkl⟩ : ∃ k, o.b.length = k := ⟨_, rfl⟩
      obtain ⟨kk, hkk⟩ : ∃ k, o.kind = k := ⟨_, rfl⟩
      obtain ⟨kn, hkn⟩ : ∃ k, o.num = k := ⟨_, rfl⟩
      obtain ⟨nm, hnm⟩ : ∃ k, o.name = k := ⟨_, rfl⟩
      rw [hkl] at c1 hrb
      rw [hkk] at c0 hsn
      rw [hkn] at c3
      rw [hnm] at c2
      have hsn : (if kk = 2 then n else sc) ≤ L'.length ∧ (S.log (L'.take (if kk = 2 then n else sc))).length = if kk = 2 then (S.log L).length else sy := hsn
      have HSN := Lib.hid hsn
      have HR := Lib.hid hR
      have HKL := Lib.hid hkl
      have HKK := Lib.hid hkk
      have HKN := Lib.hid hkn
      have HNM := Lib.hid hnm
      have HOO := Lib.hid hoo
      have HAB := Lib.hid hAb
      have hi1' : (0 : Int) ≤ (i : Int) := by omega
      have hi2' : (i : Int) < (n0 : Int) := by omega
      clear hR hkl hkk hkn hnm hoo hAb ho hsn
      obtain ⟨w3, rfl⟩ : ∃ x, x = wr := ⟨_, rfl⟩
      go_wp2_with fail
      refine (do_any w.heap.size g bo bn sy v L o HOO.out kl kk kn nm HKL.out HKK.out HKN.out HNM.out Ab cb (by omega) L' k er HR.out _ hs hrb (fun ad e => ⟨(HAB.out ad e).1, fun hf => (HAB.out ad e).2 (.inl hf)⟩)).mono ?_
      rintro e w4 ⟨rfl, v4, hs4, ht4, hn4⟩
      obtain ⟨sy4, hsy4⟩ : ∃ s, (if kk = 2 then (S.log L).length else sy) = s := ⟨_, rfl⟩
      obtain ⟨sc4, hsc4⟩ : ∃ s, (if kk = 2 then n else sc) = s := ⟨_, rfl⟩
      have hsn := HSN.out
      rw [hsy4] at hs4 hsn
      rw [hsc4] at hsn
      obtain ⟨hsn1, hsn2⟩ := hsn
      have HS2 := Lib.hid hsn2
      have hG : ∀ i, farB g bo bn v4 gB i → farB g bo bn v gB i ∨ w3.heap.size ≤ i := fun i hi => by
        rcases hi with hi | hi
        · rcases hn4.far i hi with h | h
          · exact .inl (.inl h)
          · exact .inr h
        · exact .inl (.inr hi)
      have hw4 : Turn (farB g bo bn v gB) w3 w4 := ht4.wide (fun i hi => .inl hi)
      have hop4 := hop.turn hw4 hG
      have hrf4 := hrf.turn hw4 hG
      have tB4 : Two w4 gB 43 (.slice A n cap) (.int .i64 (sc : Int)) := (ht4.block _ tB.lt hnB).trans tB
      have hB4 := hB.trans (hs.turn_below ht4 (Nat.le_refl _))
      have hnB4 : ¬ far g bo bn v4 gB := fun h => by
        rcases hn4.far _ h with h | h
        · exact hnB h
        · have := tB.lt; omega
      have d0 := ht4.cell c0 (fun h => hfg (.inl h))
      have d1 := ht4.cell c1 (fun h => hfg (.inl h))
      have d2 := ht4.cell c2 (fun h => hfg (.inl h))
      have d3 := ht4.cell c3 (fun h => hfg (.inl h))
      have hrb4 := (ht4.reads hrb (Nat.le_refl _) (fun ad e hf => (HAB.out ad e).2 (.inl hf))).more ht4.size
      have hAb4 : ∀ ad, Ab = some ad → ad.block < w4.heap.size ∧ ¬ farB g bo bn v4 gB ad.block := fun ad e => ⟨Nat.lt_of_lt_of_le (HAB.out ad e).1 ht4.size, fun h => by
        rcases hG _ h with h | h
        · exact (HAB.out ad e).2 h
        · have := (HAB.out ad e).1; omega⟩
      have hF4 : ∀ i, farB g bo bn v4 gB i → i < w4.heap.size := fun i hi => by
        rcases hi with hi | hi
        · exact hs4.far_lt i hi
        · subst hi; exact tB4.lt
      have HAB4 := Lib.hid hAb4
      have HF4 := Lib.hid hF4
      have b0 := tB4.cell0
      have b1 := tB4.cell1
      clear hs hop hrf tB hB c0 c1 c2 c3 hrb ht4 hn4 hw4 hG hsn2 hAb4 hF4
      go_wp2_with fail
      have hse : (if kk = 2 then (n : Int) else (sc : Int)) = (sc4 : Int) := by rw [← hsc4]; split <;> rfl
      have hdo := fun G W h hr hA hF => refDo_any G A n cap L (sc : Int) o HOO.out kl kk kn nm HKL.out HKK.out HKN.out HNM.out Ab cb L' k er HR.out (by omega) hnc2 W h hr hA hF
      simp only [hse] at hdo
      have HDO := Lib.hid hdo
      have hB0 : Below w4.heap.size w4 w4.drew := Below.drew (Below.refl w4.heap.size w4)
      have s0 : OpS gB ga i A n cap sc kk Ab kl cb nm kn w4 := ⟨b0, b1, d0, d1, d2, d3⟩
      have hS0 := opS hB0 rfl s0
      clear hdo hse hsc4 hsy4
      -- REGION
      refine wp_region_held_drew (S := OpS gB ga i A n cap sc kk Ab kl cb nm kn) (by kernel_rfl) hS0 (fun hHeld => ?_)
      clear hHeld
      (try simp only [Act.put, List.setIfInBounds_toArray, List.set_cons_zero, List.set_cons_succ])
      refine wpAnyH_take (i := 0) (oi := { dst := some 45, op := Op.load 43 (Operand.tmp 8), type := 43, pos := _, after := #[], guard := none }) (v := ?_) rfl (by kernel_rfl) (by kernel_rfl) (by kernel_rfl) (fun _ _ _ h => h) (Or.inl ⟨by rfl, ?_⟩) hS0 ?_
      rotate_left
      · intro w hSw; obtain ⟨z1, z2, z3, z4, z5, z6⟩ := hSw; go_simp; try with_reducible rfl
      (try simp only [Act.put, List.setIfInBounds_toArray, List.set_cons_zero, List.set_cons_succ])
      refine wpAnyH_take (i := 1) (oi := { dst := some 46, op := Op.move (Operand.tmp 9), type := 44, pos := _, after := #[], guard := none }) (v := ?_) rfl (by kernel_rfl) (by kernel_rfl) (by kernel_rfl) (fun _ _ _ h => h) (Or.inl ⟨by rfl, ?_⟩) hS0 ?_
      rotate_left
      · intro w hSw; obtain ⟨z1, z2, z3, z4, z5, z6⟩ := hSw; go_simp; try with_reducible rfl
      (try simp only [Act.put, List.setIfInBounds_toArray, List.set_cons_zero, List.set_cons_succ])
      refine wpAnyH_take (i := 2) (oi := { dst := some 47, op := Op.move (Operand.tmp 10), type := 3, pos := _, after := #[], guard := none }) (v := ?_) rfl (by kernel_rfl) (by kernel_rfl) (by kernel_rfl) (fun _ _ _ h => h) (Or.inl ⟨by rfl, ?_⟩) hS0 ?_
      rotate_left
      · intro w hSw; obtain ⟨z1, z2, z3, z4, z5, z6⟩ := hSw; go_simp; try with_reducible rfl
      (try simp only [Act.put, List.setIfInBounds_toArray, List.set_cons_zero, List.set_cons_succ])
      refine wpAnyH_take (i := 3) (oi := { dst := some 48, op := Op.indexAddr 44 (Operand.tmp 46) (Operand.tmp 47), type := 0, pos := _, after := #[{ on := 1, ground := Ground.data }, { on := 2, ground := Ground.data }], guard := none }) (v := ?_) rfl (by kernel_rfl) (by kernel_rfl) (by kernel_rfl) (fun _ _ _ h => h) (Or.inl ⟨by rfl, ?_⟩) hS0 ?_
      rotate_left
      · intro w hSw; obtain ⟨z1, z2, z3, z4, z5, z6⟩ := hSw; go_simp; try with_reducible rfl
      (try simp only [Act.put, List.setIfInBounds_toArray, List.set_cons_zero, List.set_cons_succ])
      refine wpAnyH_take (i := 4) (oi := { dst := some 49, op := Op.load 48 (Operand.tmp 48), type := 48, pos := _, after := #[{ on := 3, ground := Ground.data }], guard := none }) (v := ?_) rfl (by kernel_rfl) (by kernel_rfl) (by kernel_rfl) (fun _ _ _ h => h) (Or.inl ⟨by rfl, ?_⟩) hS0 ?_
      rotate_left
      · intro w hSw; obtain ⟨z1, z2, z3, z4, z5, z6⟩ := hSw; go_simp; try with_reducible rfl
      (try simp only [Act.put, List.setIfInBounds_toArray, List.set_cons_zero, List.set_cons_succ])
      refine wpAnyH_ready (rs := [5, 10]) (by kernel_rfl) (by simp) (AllReadyH.cons (o := { dst := some 50, op := Op.call { callee := Callee.value (Operand.func 23), args := #[Operand.tmp 45, Operand.tmp 49], argTypes := #[43, 48] }, type := 49, pos := _, after := #[{ on := 0, ground := Ground.data }, { on := 4, ground := Ground.data }], guard := none }) rfl (fun K hK => ?_) (AllReadyH.cons (o := { dst := some 13, op := Op.alloc 43, type := 0, pos := _, after := #[], guard := none }) rfl (fun K hK => ?_) AllReadyH.nil))
      · go_simp
        go_at_call 23
        refine (HDO.out (farB g bo bn v4 gB) _ (hrf4.later hB0) (hrb4.later hB0) HAB4.out HF4.out).mono ?_
        rintro e v5 ⟨A5, n5, c5, rfl, hc5, h5, d5⟩
        have B5 := blater hB0 (Nat.le_refl _) d5
        have S5 := opS B5 rfl s0
        go_simp
        refine hK.out _ _ S5 (fun hHeld => ?_)
        clear hK K hHeld
        (try simp only [Act.put, List.setIfInBounds_toArray, List.set_cons_zero, List.set_cons_succ])
        refine wpAnyH_take (i := 6) (oi := { dst := some 44, op := Op.move (Operand.tmp 50), type := 49, pos := _, after := #[{ on := 5, ground := Ground.data }], guard := none }) (v := ?_) rfl (by kernel_rfl) (by kernel_rfl) (by kernel_rfl) (fun _ _ _ h => h) (Or.inl ⟨by rfl, ?_⟩) S5 ?_
        rotate_left
        · intro w hSw; obtain ⟨z1, z2, z3, z4, z5, z6⟩ := hSw; go_simp; try with_reducible rfl
        (try simp only [Act.put, List.setIfInBounds_toArray, List.set_cons_zero, List.set_cons_succ])
        refine wpAnyH_take (i := 7) (oi := { dst := some 51, op := Op.extract (Operand.tmp 44) 0, type := 43, pos := _, after := #[{ on := 6, ground := Ground.data }], guard := none }) (v := ?_) rfl (by kernel_rfl) (by kernel_rfl) (by kernel_rfl) (fun _ _ _ h => h) (Or.inl ⟨by rfl, ?_⟩) S5 ?_
        rotate_left
        · intro w hSw; obtain ⟨z1, z2, z3, z4, z5, z6⟩ := hSw; go_simp; try with_reducible rfl
        (try simp only [Act.put, List.setIfInBounds_toArray, List.set_cons_zero, List.set_cons_succ])
        refine wpAnyH_take (i := 8) (oi := { dst := some 52, op := Op.extract (Operand.tmp 44) 1, type := 23, pos := _, after := #[{ on := 6, ground := Ground.data }, { on := 11, ground := Ground.gcOnly Departure.lateStores }], guard := none }) (v := ?_) rfl (by kernel_rfl) (by kernel_rfl) (by kernel_rfl) (fun _ _ _ h => h) (Or.inl ⟨by rfl, ?_⟩) S5 ?_
        rotate_left
        · intro w hSw; obtain ⟨z1, z2, z3, z4, z5, z6⟩ := hSw; go_simp; try with_reducible rfl
        (try simp only [Act.put, List.setIfInBounds_toArray, List.set_cons_zero, List.set_cons_succ])
        refine wpAnyH_take (i := 9) (oi := { dst := some 53, op := Op.extract (Operand.tmp 44) 2, type := 27, pos := _, after := #[{ on := 6, ground := Ground.data }, { on := 12, ground := Ground.gcOnly Departure.lateStores }], guard := none }) (v := ?_) rfl (by kernel_rfl) (by kernel_rfl) (by kernel_rfl) (fun _ _ _ h => h) (Or.inl ⟨by rfl, ?_⟩) S5 ?_
        rotate_left
        · intro w hSw; obtain ⟨z1, z2, z3, z4, z5, z6⟩ := hSw; go_simp; try with_reducible rfl
        (try simp only [Act.put, List.setIfInBounds_toArray, List.set_cons_zero, List.set_cons_succ])
        refine wpAnyH_ready (rs := [10]) (by kernel_rfl) (by simp) (AllReadyH.cons (o := { dst := some 13, op := Op.alloc 43, type := 0, pos := _, after := #[], guard := none }) rfl (fun K hK => ?_) AllReadyH.nil)
        go_simp
        obtain ⟨v6, hv6⟩ : ∃ y, World.alloc v5 (.cells #[.slice none 0 0, .int .i64 0] 43) = y := ⟨_, rfl⟩
        have d6 : Below v5.heap.size v5 v6 := by rw [← hv6]; exact (Below.refl _ _).alloc (Nat.le_refl _) _
        have B6 := blater B5 (Nat.le_refl _) d6
        have S6 := opS B6 rfl s0
        have h6 := h5.turn (Turn.of_below _ d6) (G := fun i => farB g bo bn v4 gB i ∨ i = v5.heap.size) (fun i hi => by rcases hi with hi | hi; exact .inl hi; exact .inr (by omega))
        have tA : Two v6 v5.heap.size 43 (.slice none 0 0) (.int .i64 0) := by rw [← hv6]; exact Two.new v5 _ _ _
        have hx := B5.size
        try rw [hv6]
        clear hv6
        refine hK.out _ _ S6 (fun hHeld => ?_)
        clear hK K hHeld
        (try simp only [Act.put, List.setIfInBounds_toArray, List.set_cons_zero, List.set_cons_succ])
        refine wpAnyH_ready (rs := [11]) (by kernel_rfl) (by simp) (AllReadyH.cons (o := { dst := none, op := Op.store 43 (Operand.tmp 13) (Operand.tmp 51), type := 0, pos := _, after := #[{ on := 10, ground := Ground.data }, { on := 7, ground := Ground.data }, { on := 5, ground := Ground.chain }, { on := 0, ground := Ground.phase }, { on := 1, ground := Ground.phase }, { on := 2, ground := Ground.phase }, { on := 3, ground := Ground.phase }, { on := 4, ground := Ground.phase }, { on := 5, ground := Ground.phase }, { on := 6, ground := Ground.phase }, { on := 7, ground := Ground.phase }, { on := 8, ground := Ground.textOnly Departure.lateStores }, { on := 9, ground := Ground.textOnly Departure.lateStores }, { on := 10, ground := Ground.phase }], guard := none }) rfl (fun K hK => ?_) AllReadyH.nil)
        have k0 := tA.cell0
        have k1 := tA.cell1
        have k2 := tA.frozen0
        have k3 := tA.frozen1
        go_simp
        obtain ⟨w9, hw9⟩ : ∃ y, (World.setCell v6 ⟨v5.heap.size, 0, none⟩ (.slice A5 n5 c5)).setCell ⟨v5.heap.size, 1, none⟩ (.int .i64 (sc4 : Int)) = y := ⟨_, rfl⟩
        have t9 : Turn (fun i => i = v5.heap.size) v6 w9 := by rw [← hw9]; exact two_turn _ _
        have tw9 : Two w9 v5.heap.size 43 (.slice A5 n5 c5) (.int .i64 (sc4 : Int)) := by rw [← hw9]; exact (tA.set0 _).set1 _
        have B9 : Below w4.heap.size w4 w9 := B6.trans (t9.below B6.size (fun i hi => by have := hx; omega))
        have S9 := opS B9 rfl s0
        have h9 : RefAt w9 (farB g bo bn v4 gB) A5 n5 L' := h6.turn (F := fun i => farB g bo bn v4 gB i ∨ i = v5.heap.size) (t9.wide (fun i hi => .inr hi)) (fun i hi => .inl (.inl hi))
        try rw [hw9]
        clear hw9 k0 k1 k2 k3
        refine hK.out _ _ S9 (fun hHeld => ?_)
        clear hK K hHeld
        (try simp only [Act.put, List.setIfInBounds_toArray, List.set_cons_zero, List.set_cons_succ])
        refine wpAnyH_take (i := 12) (oi := { dst := some 14, op := Op.assign (Operand.tmp 52), type := 23, pos := _, after := #[{ on := 8, ground := Ground.data }, { on := 11, ground := Ground.chain }, { on := 0, ground := Ground.phase }, { on := 1, ground := Ground.phase }, { on := 2, ground := Ground.phase }, { on := 3, ground := Ground.phase }, { on := 4, ground := Ground.phase }, { on := 5, ground := Ground.phase }, { on := 6, ground := Ground.phase }, { on := 7, ground := Ground.phase }, { on := 8, ground := Ground.phase }, { on := 9, ground := Ground.textOnly Departure.lateStores }, { on := 10, ground := Ground.phase }, { on := 11, ground := Ground.phase }], guard := none }) (v := ?_) rfl (by kernel_rfl) (by kernel_rfl) (by kernel_rfl) (fun _ _ _ h => h) (Or.inl ⟨by rfl, ?_⟩) S9 ?_
        rotate_left
        · intro w hSw; obtain ⟨z1, z2, z3, z4, z5, z6⟩ := hSw; go_simp; try with_reducible rfl
        (try simp only [Act.put, List.setIfInBounds_toArray, List.set_cons_zero, List.set_cons_succ])
        refine wpAnyH_take (i := 13) (oi := { dst := some 15, op := Op.assign (Operand.tmp 53), type := 27, pos := _, after := #[{ on := 9, ground := Ground.data }, { on := 12, ground := Ground.chain }, { on := 0, ground := Ground.phase }, { on := 1, ground := Ground.phase }, { on := 2, ground := Ground.phase }, { on := 3, ground := Ground.phase }, { on := 4, ground := Ground.phase }, { on := 5, ground := Ground.phase }, { on := 6, ground := Ground.phase }, { on := 7, ground := Ground.phase }, { on := 8, ground := Ground.phase }, { on := 9, ground := Ground.phase }, { on := 10, ground := Ground.phase }, { on := 11, ground := Ground.phase }, { on := 12, ground := Ground.phase }], guard := none }) (v := ?_) rfl (by kernel_rfl) (by kernel_rfl) (by kernel_rfl) (fun _ _ _ h => h) (Or.inl ⟨by rfl, ?_⟩) S9 ?_
        rotate_left
        · intro w hSw; obtain ⟨z1, z2, z3, z4, z5, z6⟩ := hSw; go_simp; try with_reducible rfl
        (try simp only [Act.put, List.setIfInBounds_toArray, List.set_cons_zero, List.set_cons_succ])
        refine wpAnyH_done (by kernel_rfl) ?_ _
        have tB9 := tB4.below B9
        obtain ⟨w10, hw10⟩ : ∃ y, (w9.setCell ⟨gB, 0, none⟩ (.slice A5 n5 c5)).setCell ⟨gB, 1, none⟩ (.int .i64 (sc4 : Int)) = y := ⟨_, rfl⟩
        have t10 : Turn (fun i => i = gB) w9 w10 := by rw [← hw10]; exact two_turn _ _
        have tB10 : Two w10 gB 43 (.slice A5 n5 c5) (.int .i64 (sc4 : Int)) := by rw [← hw10]; exact (tB9.set0 _).set1 _
        have hs10 := (hs4.later B9).box tB9 (fun c e => by cases e) (fun c e => by cases e) hnB4 t10
        have hrf10 := h9.turn (F := farB g bo bn v4 gB) (t10.wide (fun i hi => .inr hi)) (fun i hi => .inl hi)
        have hop10 := (hop4.turn (Turn.of_below _ B9) (fun i hi => .inl hi)).turn (F := farB g bo bn v4 gB) (G := farB g bo bn v4 gB) (t10.wide (fun i hi => .inr hi)) (fun i hi => .inl hi)
        have hB10 := (blater hB4 (Nat.le_refl _) B9).trans (t10.below (blater hB4 (Nat.le_refl _) B9).size (fun i hi => by omega))
        have y0 := tw9.cell0
        have y1 := tw9.cell1
        have y2 := tB9.cell0
        have y3 := tB9.cell1
        have y4 := tB9.frozen0
        have y5 := tB9.frozen1
        have u0 := tB10.cell0
        have u1 := tB10.cell1
        have hn5 := hrf10.1
        go_wp2_with fail
        refine (same_any w.heap.size g bo bn sy4 v4 L' (farB g bo bn v4 gB) A5 n5 c5 sc4 (by omega) HS2.out (by omega) hc5 _ hs10 hrf10).mono ?_
        rintro e w11 ⟨rfl, d11⟩
        have hs11 := hs10.later d11
        have hrf11 := hrf10.later d11
        have hop11 := hop10.turn (Turn.of_below (farB g bo bn v4 gB) d11) (fun i hi => .inl hi)
        have tB11 := tB10.below d11
        have hB11 := blater hB10 (Nat.le_refl _) d11
        clear y0 y1 y2 y3 y4 y5 u0 u1 hw10
        go_wp2_with fail
        go_roundw
        case rel => exact ⟨i + 1, v4, L', sy4, A5, n5, c5, sc4, by omega, by go_num, by omega, hs11, hop11, tB11, hrf11, hc5, by omega, HS2, hnB4, hB11⟩
        case measure => simp [intOf]; omega
      · go_simp
        obtain ⟨v5, hv5⟩ : ∃ y, (World.alloc w4 (.cells #[.slice none 0 0, .int .i64 0] 43)).drew = y := ⟨_, rfl⟩
        have d5 : Below w4.drew.heap.size w4.drew v5 := by rw [← hv5]; exact (Below.refl _ _).alloc (Nat.le_refl _) _
        have B5 := blater hB0 (Nat.le_refl _) d5
        have S5 := opS B5 rfl s0
        have tA : Two v5 w4.heap.size 43 (.slice none 0 0) (.int .i64 0) := by rw [← hv5]; exact Two.new w4.drew _ _ _
        try rw [hv5]
        clear hv5
        refine hK.out _ _ S5 (fun hHeld => ?_)
        clear hK K hHeld
        (try simp only [Act.put, List.setIfInBounds_toArray, List.set_cons_zero, List.set_cons_succ])
        refine wpAnyH_ready (rs := [5]) (by kernel_rfl) (by simp) (AllReadyH.cons (o := { dst := some 50, op := Op.call { callee := Callee.value (Operand.func 23), args := #[Operand.tmp 45, Operand.tmp 49], argTypes := #[43, 48] }, type := 49, pos := _, after := #[{ on := 0, ground := Ground.data }, { on := 4, ground := Ground.data }], guard := none }) rfl (fun K hK => ?_) AllReadyH.nil)
        go_simp
        go_at_call 23
        refine (HDO.out (fun i => farB g bo bn v4 gB i ∨ i = w4.heap.size) _ ((hrf4.turn (Turn.refl _ _) (G := fun i => farB g bo bn v4 gB i ∨ i = w4.heap.size) (fun i hi => by rcases hi with hi | hi; exact .inl hi; exact .inr (by omega))).later B5) (hrb4.later B5) (fun ad e => ⟨Nat.lt_of_lt_of_le (HAB4.out ad e).1 B5.size, fun h => by rcases h with h | h; exact (HAB4.out ad e).2 h; have := (HAB4.out ad e).1; omega⟩) (fun i hi => by rcases hi with hi | hi; exact Nat.lt_of_lt_of_le (HF4.out i hi) B5.size; subst hi; exact tA.lt)).mono ?_
        rintro e v6 ⟨A5, n5, c5, rfl, hc5, h6, d6⟩
        have B6 := blater B5 (Nat.le_refl _) d6
        have S6 := opS B6 rfl s0
        have tA6 := tA.below d6
        have hx := Nat.le_refl w4.heap.size
        go_simp
        refine hK.out _ _ S6 (fun hHeld => ?_)
        clear hK K hHeld
        (try simp only [Act.put, List.setIfInBounds_toArray, List.set_cons_zero, List.set_cons_succ])
        refine wpAnyH_take (i := 6) (oi := { dst := some 44, op := Op.move (Operand.tmp 50), type := 49, pos := _, after := #[{ on := 5, ground := Ground.data }], guard := none }) (v := ?_) rfl (by kernel_rfl) (by kernel_rfl) (by kernel_rfl) (fun _ _ _ h => h) (Or.inl ⟨by rfl, ?_⟩) S6 ?_
        rotate_left
        · intro w hSw; obtain ⟨z1, z2, z3, z4, z5, z6⟩ := hSw; go_simp; try with_reducible rfl
        (try simp only [Act.put, List.setIfInBounds_toArray, List.set_cons_zero, List.set_cons_succ])
        refine wpAnyH_take (i := 7) (oi := { dst := some 51, op := Op.extract (Operand.tmp 44) 0, type := 43, pos := _, after := #[{ on := 6, ground := Ground.data }], guard := none }) (v := ?_) rfl (by kernel_rfl) (by kernel_rfl) (by kernel_rfl) (fun _ _ _ h => h) (Or.inl ⟨by rfl, ?_⟩) S6 ?_
        rotate_left
        · intro w hSw; obtain ⟨z1, z2, z3, z4, z5, z6⟩ := hSw; go_simp; try with_reducible rfl
        (try simp only [Act.put, List.setIfInBounds_toArray, List.set_cons_zero, List.set_cons_succ])
        refine wpAnyH_take (i := 8) (oi := { dst := some 52, op := Op.extract (Operand.tmp 44) 1, type := 23, pos := _, after := #[{ on := 6, ground := Ground.data }, { on := 11, ground := Ground.gcOnly Departure.lateStores }], guard := none }) (v := ?_) rfl (by kernel_rfl) (by kernel_rfl) (by kernel_rfl) (fun _ _ _ h => h) (Or.inl ⟨by rfl, ?_⟩) S6 ?_
        rotate_left
        · intro w hSw; obtain ⟨z1, z2, z3, z4, z5, z6⟩ := hSw; go_simp; try with_reducible rfl
        (try simp only [Act.put, List.setIfInBounds_toArray, List.set_cons_zero, List.set_cons_succ])
        refine wpAnyH_take (i := 9) (oi := { dst := some 53, op := Op.extract (Operand.tmp 44) 2, type := 27, pos := _, after := #[{ on := 6, ground := Ground.data }, { on := 12, ground := Ground.gcOnly Departure.lateStores }], guard := none }) (v := ?_) rfl (by kernel_rfl) (by kernel_rfl) (by kernel_rfl) (fun _ _ _ h => h) (Or.inl ⟨by rfl, ?_⟩) S6 ?_
        rotate_left
        · intro w hSw; obtain ⟨z1, z2, z3, z4, z5, z6⟩ := hSw; go_simp; try with_reducible rfl
        (try simp only [Act.put, List.setIfInBounds_toArray, List.set_cons_zero, List.set_cons_succ])
        refine wpAnyH_ready (rs := [11]) (by kernel_rfl) (by simp) (AllReadyH.cons (o := { dst := none, op := Op.store 43 (Operand.tmp 13) (Operand.tmp 51), type := 0, pos := _, after := #[{ on := 10, ground := Ground.data }, { on := 7, ground := Ground.data }, { on := 5, ground := Ground.chain }, { on := 0, ground := Ground.phase }, { on := 1, ground := Ground.phase }, { on := 2, ground := Ground.phase }, { on := 3, ground := Ground.phase }, { on := 4, ground := Ground.phase }, { on := 5, ground := Ground.phase }, { on := 6, ground := Ground.phase }, { on := 7, ground := Ground.phase }, { on := 8, ground := Ground.textOnly Departure.lateStores }, { on := 9, ground := Ground.textOnly Departure.lateStores }, { on := 10, ground := Ground.phase }], guard := none }) rfl (fun K hK => ?_) AllReadyH.nil)
        have k0 := tA6.cell0
        have k1 := tA6.cell1
        have k2 := tA6.frozen0
        have k3 := tA6.frozen1
        go_simp
        obtain ⟨w9, hw9⟩ : ∃ y, (World.setCell v6 ⟨w4.heap.size, 0, none⟩ (.slice A5 n5 c5)).setCell ⟨w4.heap.size, 1, none⟩ (.int .i64 (sc4 : Int)) = y := ⟨_, rfl⟩
        have t9 : Turn (fun i => i = w4.heap.size) v6 w9 := by rw [← hw9]; exact two_turn _ _
        have tw9 : Two w9 w4.heap.size 43 (.slice A5 n5 c5) (.int .i64 (sc4 : Int)) := by rw [← hw9]; exact (tA6.set0 _).set1 _
        have B9 : Below w4.heap.size w4 w9 := B6.trans (t9.below B6.size (fun i hi => by have := hx; omega))
        have S9 := opS B9 rfl s0
        have h9 : RefAt w9 (farB g bo bn v4 gB) A5 n5 L' := h6.turn (F := fun i => farB g bo bn v4 gB i ∨ i = w4.heap.size) (t9.wide (fun i hi => .inr hi)) (fun i hi => .inl (.inl hi))
        try rw [hw9]
        clear hw9 k0 k1 k2 k3
        refine hK.out _ _ S9 (fun hHeld => ?_)
        clear hK K hHeld
        (try simp only [Act.put, List.setIfInBounds_toArray, List.set_cons_zero, List.set_cons_succ])
        refine wpAnyH_take (i := 12) (oi := { dst := some 14, op := Op.assign (Operand.tmp 52), type := 23, pos := _, after := #[{ on := 8, ground := Ground.data }, { on := 11, ground := Ground.chain }, { on := 0, ground := Ground.phase }, { on := 1, ground := Ground.phase }, { on := 2, ground := Ground.phase }, { on := 3, ground := Ground.phase }, { on := 4, ground := Ground.phase }, { on := 5, ground := Ground.phase }, { on := 6, ground := Ground.phase }, { on := 7, ground := Ground.phase }, { on := 8, ground := Ground.phase }, { on := 9, ground := Ground.textOnly Departure.lateStores }, { on := 10, ground := Ground.phase }, { on := 11, ground := Ground.phase }], guard := none }) (v := ?_) rfl (by kernel_rfl) (by kernel_rfl) (by kernel_rfl) (fun _ _ _ h => h) (Or.inl ⟨by rfl, ?_⟩) S9 ?_
        rotate_left
        · intro w hSw; obtain ⟨z1, z2, z3, z4, z5, z6⟩ := hSw; go_simp; try with_reducible rfl
        (try simp only [Act.put, List.setIfInBounds_toArray, List.set_cons_zero, List.set_cons_succ])
        refine wpAnyH_take (i := 13) (oi := { dst := some 15, op := Op.assign (Operand.tmp 53), type := 27, pos := _, after := #[{ on := 9, ground := Ground.data }, { on := 12, ground := Ground.chain }, { on := 0, ground := Ground.phase }, { on := 1, ground := Ground.phase }, { on := 2, ground := Ground.phase }, { on := 3, ground := Ground.phase }, { on := 4, ground := Ground.phase }, { on := 5, ground := Ground.phase }, { on := 6, ground := Ground.phase }, { on := 7, ground := Ground.phase }, { on := 8, ground := Ground.phase }, { on := 9, ground := Ground.phase }, { on := 10, ground := Ground.phase }, { on := 11, ground := Ground.phase }, { on := 12, ground := Ground.phase }], guard := none }) (v := ?_) rfl (by kernel_rfl) (by kernel_rfl) (by kernel_rfl) (fun _ _ _ h => h) (Or.inl ⟨by rfl, ?_⟩) S9 ?_
        rotate_left
        · intro w hSw; obtain ⟨z1, z2, z3, z4, z5, z6⟩ := hSw; go_simp; try with_reducible rfl
        (try simp only [Act.put, List.setIfInBounds_toArray, List.set_cons_zero, List.set_cons_succ])
        refine wpAnyH_done (by kernel_rfl) ?_ _
        have tB9 := tB4.below B9
        obtain ⟨w10, hw10⟩ : ∃ y, (w9.setCell ⟨gB, 0, none⟩ (.slice A5 n5 c5)).setCell ⟨gB, 1, none⟩ (.int .i64 (sc4 : Int)) = y := ⟨_, rfl⟩
        have t10 : Turn (fun i => i = gB) w9 w10 := by rw [← hw10]; exact two_turn _ _
        have tB10 : Two w10 gB 43 (.slice A5 n5 c5) (.int .i64 (sc4 : Int)) := by rw [← hw10]; exact (tB9.set0 _).set1 _
        have hs10 := (hs4.later B9).box tB9 (fun c e => by cases e) (fun c e => by cases e) hnB4 t10
        have hrf10 := h9.turn (F := farB g bo bn v4 gB) (t10.wide (fun i hi => .inr hi)) (fun i hi => .inl hi)
        have hop10 := (hop4.turn (Turn.of_below _ B9) (fun i hi => .inl hi)).turn (F := farB g bo bn v4 gB) (G := farB g bo bn v4 gB) (t10.wide (fun i hi => .inr hi)) (fun i hi => .inl hi)
        have hB10 := (blater hB4 (Nat.le_refl _) B9).trans (t10.below (blater hB4 (Nat.le_refl _) B9).size (fun i hi => by omega))
        have y0 := tw9.cell0
        have y1 := tw9.cell1
        have y2 := tB9.cell0
        have y3 := tB9.cell1
        have y4 := tB9.frozen0
        have y5 := tB9.frozen1
        have u0 := tB10.cell0
        have u1 := tB10.cell1
        have hn5 := hrf10.1
        go_wp2_with fail
        refine (same_any w.heap.size g bo bn sy4 v4 L' (farB g bo bn v4 gB) A5 n5 c5 sc4 (by omega) HS2.out (by omega) hc5 _ hs10 hrf10).mono ?_
        rintro e w11 ⟨rfl, d11⟩
        have hs11 := hs10.later d11
        have hrf11 := hrf10.later d11
        have hop11 := hop10.turn (Turn.of_below (farB g bo bn v4 gB) d11) (fun i hi => .inl hi)
        have tB11 := tB10.below d11
        have hB11 := blater hB10 (Nat.le_refl _) d11
        clear y0 y1 y2 y3 y4 y5 u0 u1 hw10
        go_wp2_with fail
        go_roundw
        case rel => exact ⟨i + 1, v4, L', sy4, A5, n5, c5, sc4, by omega, by go_num, by omega, hs11, hop11, tB11, hrf11, hc5, by omega, HS2, hnB4, hB11⟩
        case measure => simp [intOf]; omega
      -- END
    · have hi2' : (n0 : Int) ≤ (i : Int) := by omega
      obtain ⟨has, hh⟩ : ∃ y, (S.get L kx).isSome = y := ⟨_, rfl⟩
      obtain ⟨ob, hob⟩ : ∃ y, (S.get L kx).getD [] = y := ⟨_, rfl⟩
      obtain ⟨kb, hkb⟩ : ∃ y, ob.length = y := ⟨_, rfl⟩
      obtain ⟨bd, hbd⟩ : ∃ z, (S.look L ky).isSome = z := ⟨_, rfl⟩
      obtain ⟨j, hj⟩ : ∃ z, (S.look L ky).getD 0 = z := ⟨_, rfl⟩
      have HSL := Lib.hid (fun W h => slook_u w.heap.size g bo bn sy v L ky j bd hbd hj W h)
      have HRL := Lib.hid (fun W h => refLook_any (farB g bo bn v gB) A n cap L (sc : Int) ky j bd hbd hj (by omega) hnc2 W h)
      have HSG := Lib.hid (fun W h => sget_u w.heap.size g bo bn sy v L kx ob kb has hh hob hkb W h)
      have HRG := Lib.hid (fun W h => refGet_any (farB g bo bn v gB) A n cap L (sc : Int) kx ob kb has hh hob hkb (by omega) hnc2 W h)
      have HKB := Lib.hid hkb
      clear hh hob hkb hbd hj
      go_wp2_with fail
      refine (HSG.out _ hs).mono ?_
      rintro e x3 ⟨A3, c3, rfl, r3, e3⟩
      have t0 := (tB.below e3).cell0
      have t1 := (tB.below e3).cell1
      go_wp2_with fail
      refine (HRG.out _ (hrf.later e3)).mono ?_
      rintro e x4 ⟨A7, c7, rfl, r7, e4⟩
      have b4 := blater e3 (Nat.le_refl _) e4
      clear t0 t1
      go_wp2_with fail
      refine (HSL.out _ (hs.later b4)).mono ?_
      rintro e xz ⟨rfl, rfl⟩
      have t0 := (tB.below b4).cell0
      have t1 := (tB.below b4).cell1
      go_wp2_with fail
      refine (HRL.out _ (hrf.later b4)).mono ?_
      rintro e x5 ⟨rfl, e5⟩
      have b5 := blater b4 (Nat.le_refl _) e5
      have cva := conv_string x5 A3 kb c3 ob HKB.out ((r3.later e4).later e5)
      have cvb := conv_string x5 A7 kb c7 ob HKB.out (r7.later e5)
      have bw := blater hB (Nat.le_refl _) b5
      clear t0 t1
      go_wp2_with fail
      refine (lives_any _).mono ?_
      rintro e x8 ⟨rfl, hd8⟩
      have hb8 := blater bw (Nat.le_refl _) hd8
      go_wp2_with fail
      go_ret
      exact ⟨rfl, hb8⟩
end Go.Proofs.Ytfanhbemmjcomaa
