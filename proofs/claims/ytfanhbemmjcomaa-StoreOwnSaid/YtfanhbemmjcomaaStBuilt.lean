/- The law's built. -/
import Derived.Test.YtfanhbemmjcomaaStLawsQ
import Derived.Test.YtfanhbemmjcomaaStOps
namespace Go.Proofs.Ytfanhbemmjcomaa
open Go.RowKit
set_option linter.unusedVariables false
/-- The store's blocks, the box of the reference's store, the result's variable. -/
def farR (g bo bn : Nat) (v : Value) (gB gR : Nat) (b : Nat) : Prop := far g bo bn v b ∨ (b = gB ∨ b = gR)

theorem StAt.rebase {W : World} {base b g bo bn sy : Nat} {v : Value} {L : List S.R} (h : StAt W base g bo bn v L sy) (hb : b ≤ base) : StAt W b g bo bn v L sy := by
  obtain ⟨f, hf, hfx⟩ := h.objs
  refine ⟨Nat.le_trans hb h.hg, Nat.le_trans hb h.hbo, Nat.le_trans hb h.hbn, h.hne, Nat.le_trans hb h.hbase, h.four, own_mono h.row hb, ⟨f, hf, fun x => ⟨(hfx x).1, fun bs e => ?_⟩⟩, h.names, h.sync, h.small, h.few⟩
  obtain ⟨u, h1, A, c, h2, h3, h4, h5, h6⟩ := (hfx x).2 bs e
  exact ⟨u, h1, A, c, h2, h3, h4, h5, fun ad e => ⟨Nat.le_trans hb (h6 ad e).1, (h6 ad e).2⟩⟩
theorem Below.mono {a b : Nat} {w w' : World} (h : Below a w w') (hb : b ≤ a) : Below b w w' := ⟨h.os, h.tape, h.output, h.size, fun i hi => h.block i (Nat.lt_of_lt_of_le hi hb)⟩
theorem res_tS {fn : Func} {p u : Tmp} (h : fn.results = #[.tmp u, .cell p 43]) (tmps : Array Value) (w : World) (g : Nat) (a b : Value) (hp : tmps.getD p undef = .pointer (some ⟨g, 0, none⟩)) (hg : Two w g 43 a b) :
    (results fn tmps).run Try.prog w = .ok (.tuple #[tmps.getD u undef, .agg #[a, b]]) w := by
  have hp' : tmps[p]?.getD undef = .pointer (some ⟨g, 0, none⟩) := by simpa using hp
  simp [results, h, hp', asAddr, run_loadVar_row w g _ _ _ _ _ hg Try.underlying43 rfl (by kernel_rfl)]

set_option maxRecDepth 10000 in
set_option maxHeartbeats 8000000 in
theorem built_any (a : Option Addr) (len cap0 : Nat) (ks : List Int) (hkl : ks.length = len) (hcap : len ≤ 9223372036854775807) (hwf : ∀ n ∈ ks, -9223372036854775808 ≤ n ∧ n ≤ 9223372036854775807) (w : World) (hrd : Reads w w.heap.size 1 a len (iv ks)) :
    Calls Try.prog 31 #[.slice a len cap0] w fun e w' => ∃ (g bo bn : Nat) (v : Value) (L : List S.R) (sy : Nat) (A : Option Addr) (n cap sc : Nat), e = .returned (.tuple #[.pointer (some ⟨g, 0, none⟩), .agg #[.slice A n cap, .int .i64 (sc : Int)]]) ∧ StAt w' w.heap.size g bo bn v L sy ∧ RefAt w' (far g bo bn v) A n L ∧ n ≤ cap ∧ sc ≤ n ∧ (S.log (L.take sc)).length = sy ∧ L.length ≤ 16 ∧ (S.Good L ∧ S.From L) ∧ Below w.heap.size w w' := by
  have HOPS := Lib.hid (fun W (h : Reads W W.heap.size 1 a len (iv ks)) => ops_any a len cap0 ks hkl (by omega) hwf W h)
  have HRD0 := Lib.hid hrd
  clear hkl hwf hrd
  obtain ⟨wr0, hwr0⟩ : ∃ x, w.alloc (.cells #[.slice none 0 0, .int .i64 0] 43) = x := ⟨_, rfl⟩
  have dr : Below w.heap.size w wr0 := by rw [← hwr0]; exact (Below.refl _ _).alloc (Nat.le_refl _) _
  have tR := Two.new w 43 (.slice none 0 0) (.int .i64 0)
  rw [hwr0] at tR
  have SR := Lib.hid (show wr0.heap.size = w.heap.size + 1 by rw [← hwr0]; simp)
  have HRD := Lib.hid (HRD0.out.later dr)
  clear HRD0
  go_enter Try.func31, Try.ntmps31
  go_wp2_with fail
  try rw [hwr0]
  clear hwr0
  refine (new_any wr0).mono ?_
  rintro e w1 ⟨g, bo, bn, rfl, hs1, hb1⟩
  obtain ⟨wb, hwb⟩ : ∃ x, w1.alloc (.cells #[.slice none 0 0, .int .i64 0] 43) = x := ⟨_, rfl⟩
  have db : Below w1.heap.size w1 wb := by rw [← hwb]; exact (Below.refl _ _).alloc (Nat.le_refl _) _
  have tb := Two.new w1 43 (.slice none 0 0) (.int .i64 0)
  rw [hwb] at tb
  have hbb := blater hb1 (Nat.le_refl _) db
  obtain ⟨gB, hgB⟩ : ∃ x, w1.heap.size = x := ⟨_, rfl⟩
  have hgw : wr0.heap.size ≤ gB := by rw [← hgB]; exact hb1.size
  have hsb := hs1.later db
  have hnf : ∀ i, far g bo bn (.slice none 0 0) i → i < gB := fun i hi => by rw [← hgB]; exact hs1.far_lt i hi
  rw [hgB] at tb
  clear hs1 db hb1
  go_wp2_with fail
  try rw [hwb]
  clear hwb
  refine (HOPS.out _ (HRD.out.later hbb)).mono ?_
  rintro e w2 ⟨A0, n0, c0', ops, rfl, hnc, hn16, hop, hok, hd2⟩
  have hs2 := hsb.later hd2
  have hb2 := blater hbb (Nat.le_refl _) hd2
  have tb2 := tb.below hd2
  have hop2 := hop.weaken (G := farR g bo bn (.slice none 0 0) gB w.heap.size) (fun i hi => by
    rcases hi with hi | hi
    · exact hsb.far_lt i hi
    · rcases hi with hi | hi
      · subst hi; exact tb.lt
      · have := SR.out; have := hbb.size; omega)
  have HOK := Lib.hid hok
  have hnB : ¬ far g bo bn (.slice none 0 0) gB := fun h => by have := hnf _ h; omega
  clear hd2 hop hok hbb HOPS HRD hsb tb hnf hgB
  go_wp2_with fail
  go_loopw [7] (fun ix wr => ∃ (i : Nat) (v : Value) (L : List S.R) (sy : Nat) (A : Option Addr) (n cap sc : Nat), i ≤ n0 ∧ ix = .int .i64 (i : Int) ∧ L.length ≤ i ∧ StAt wr wr0.heap.size g bo bn v L sy ∧ OpsAt wr (farR g bo bn v gB w.heap.size) A0 n0 ops ∧ Two wr gB 43 (.slice A n cap) (.int .i64 (sc : Int)) ∧ RefAt wr (farR g bo bn v gB w.heap.size) A n L ∧ n ≤ cap ∧ sc ≤ n ∧ Hid ((S.log (L.take sc)).length = sy) ∧ Hid (S.Good L ∧ S.From L) ∧ ¬ far g bo bn v gB ∧ Below wr0.heap.size wr0 wr) (fun ix _ => n0 - (intOf ix).toNat)
  case atStart => exact ⟨0, _, [], 0, none, 0, 0, 0, Nat.zero_le _, rfl, Nat.le_refl _, hs2, hop2, tb2, RefAt.nil _ _, Nat.le_refl _, Nat.le_refl _, Lib.hid rfl, Lib.hid ⟨S.Good.nil, S.From.nil⟩, hnB, hb2⟩
  case round =>
    obtain ⟨i, v, L, sy, A, n, cap, sc, hi1, rfl, hLi, hs, hop, tB, hrf, hnc2, hscn, hsy, hgf, hnB, hB⟩ := hrel
    clear hs2 hop2 tb2 hb2
    have hLn := hrf.1
    by_cases hlt : i < n0
    · obtain ⟨ga, o, Ab, cb, rfl, hfg, hgl, ho, c0, c1, c2, c3, hrb, hAb⟩ := op_at hop hlt
      have hoo := HOK.out o (List.mem_of_getElem? ho)
      have hln := S.doo_len L o
      have hsn := S.doo_sync (o := o) hLn hscn hsy.out
      have hgf' := And.intro (S.doo_good hgf.out.1 o) (S.doo_from hgf.out.2 hoo)
      obtain ⟨⟨L', k, er⟩, hR⟩ : ∃ r, S.doo L o = r := ⟨_, rfl⟩
      rw [hR] at hln hsn hgf'
      have HGF := Lib.hid (show S.Good L' ∧ S.From L' from hgf')
      clear hgf'
      have hln : L'.length ≤ L.length + 1 := hln
      obtain ⟨kl, hkl⟩ : ∃ k, o.b.length = k := ⟨_, rfl⟩
      obtain ⟨kk, hkk⟩ : ∃ k, o.kind = k := ⟨_, rfl⟩
      obtain ⟨kn, hkn⟩ : ∃ k, o.num = k := ⟨_, rfl⟩
      obtain ⟨nm, hnm⟩ : ∃ k, o.name = k := ⟨_, rfl⟩
      rw [hkl] at c1 hrb
      rw [hkk] at c0 hsn
      rw [hkn] at c3
      rw [hnm] at c2
      have hsn : (if kk = 2 then n else sc) ≤ L'.length ∧ (S.log (L'.take (if kk = 2 then n else sc))).length = if kk = 2 then (S.log L).length else sy := hsn
      have HSN := Lib.hid hsn
      have HR := Lib.hid hR
      have HKL := Lib.hid hkl
      have HKK := Lib.hid hkk
      have HKN := Lib.hid hkn
      have HNM := Lib.hid hnm
      have HOO := Lib.hid hoo
      have HAB := Lib.hid hAb
      have hi1' : (0 : Int) ≤ (i : Int) := by omega
      have hi2' : (i : Int) < (n0 : Int) := by omega
      clear hR hkl hkk hkn hnm hoo hAb ho hsn
      obtain ⟨w3, rfl⟩ : ∃ x, x = wr := ⟨_, rfl⟩
      go_wp2_with fail
      refine (do_any wr0.heap.size g bo bn sy v L o HOO.out kl kk kn nm HKL.out HKK.out HKN.out HNM.out Ab cb (by omega) L' k er HR.out _ hs hrb (fun ad e => ⟨(HAB.out ad e).1, fun hf => (HAB.out ad e).2 (.inl hf)⟩)).mono ?_
      rintro e w4 ⟨rfl, v4, hs4, ht4, hn4⟩
      obtain ⟨sy4, hsy4⟩ : ∃ s, (if kk = 2 then (S.log L).length else sy) = s := ⟨_, rfl⟩
      obtain ⟨sc4, hsc4⟩ : ∃ s, (if kk = 2 then n else sc) = s := ⟨_, rfl⟩
      have hsn := HSN.out
      rw [hsy4] at hs4 hsn
      rw [hsc4] at hsn
      obtain ⟨hsn1, hsn2⟩ := hsn
      have HS2 := Lib.hid hsn2
      have hG : ∀ i, farR g bo bn v4 gB w.heap.size i → farR g bo bn v gB w.heap.size i ∨ w3.heap.size ≤ i := fun i hi => by
        rcases hi with hi | hi
        · rcases hn4.far i hi with h | h
          · exact .inl (.inl h)
          · exact .inr h
        · exact .inl (.inr hi)
      have hw4 : Turn (farR g bo bn v gB w.heap.size) w3 w4 := ht4.wide (fun i hi => .inl hi)
      have hop4 := hop.turn hw4 hG
      have hrf4 := hrf.turn hw4 hG
      have tB4 : Two w4 gB 43 (.slice A n cap) (.int .i64 (sc : Int)) := (ht4.block _ tB.lt hnB).trans tB
      have hB4 := hB.trans (hs.turn_below ht4 (Nat.le_refl _))
      have hnB4 : ¬ far g bo bn v4 gB := fun h => by
        rcases hn4.far _ h with h | h
        · exact hnB h
        · have := tB.lt; omega
      have d0 := ht4.cell c0 (fun h => hfg (.inl h))
      have d1 := ht4.cell c1 (fun h => hfg (.inl h))
      have d2 := ht4.cell c2 (fun h => hfg (.inl h))
      have d3 := ht4.cell c3 (fun h => hfg (.inl h))
      have hrb4 := (ht4.reads hrb (Nat.le_refl _) (fun ad e hf => (HAB.out ad e).2 (.inl hf))).more ht4.size
      have hAb4 : ∀ ad, Ab = some ad → ad.block < w4.heap.size ∧ ¬ farR g bo bn v4 gB w.heap.size ad.block := fun ad e => ⟨Nat.lt_of_lt_of_le (HAB.out ad e).1 ht4.size, fun h => by
        rcases hG _ h with h | h
        · exact (HAB.out ad e).2 h
        · have := (HAB.out ad e).1; omega⟩
      have hF4 : ∀ i, farR g bo bn v4 gB w.heap.size i → i < w4.heap.size := fun i hi => by
        rcases hi with hi | hi
        · exact hs4.far_lt i hi
        · rcases hi with hi | hi
          · subst hi; exact tB4.lt
          · have := SR.out; have := hB4.size; omega
      have HAB4 := Lib.hid hAb4
      have HF4 := Lib.hid hF4
      have b0 := tB4.cell0
      have b1 := tB4.cell1
      clear hs hop hrf tB hB c0 c1 c2 c3 hrb ht4 hn4 hw4 hG hsn2 hAb4 hF4
      go_wp2_with fail
      have hse : (if kk = 2 then (n : Int) else (sc : Int)) = (sc4 : Int) := by rw [← hsc4]; split <;> rfl
      have hdo := fun G W h hr hA hF => refDo_any G A n cap L (sc : Int) o HOO.out kl kk kn nm HKL.out HKK.out HKN.out HNM.out Ab cb L' k er HR.out (by omega) hnc2 W h hr hA hF
      simp only [hse] at hdo
      have HDO := Lib.hid hdo
      have hB0 : Below w4.heap.size w4 w4.drew := Below.drew (Below.refl w4.heap.size w4)
      have s0 : OpS gB ga i A n cap sc kk Ab kl cb nm kn w4 := ⟨b0, b1, d0, d1, d2, d3⟩
      have hS0 := opS hB0 rfl s0
      clear hdo hse hsc4 hsy4
      -- REGION
      refine wp_region_held_drew (S := OpS gB ga i A n cap sc kk Ab kl cb nm kn) (by kernel_rfl) hS0 (fun hHeld => ?_)
      clear hHeld
      (try simp only [Act.put, List.setIfInBounds_toArray, List.set_cons_zero, List.set_cons_succ])
      refine wpAnyH_take (i := 0) (oi := { dst := some 31, op := Op.load 43 (Operand.tmp 5), type := 43, pos := _, after := #[], guard := none }) (v := ?_) rfl (by kernel_rfl) (by kernel_rfl) (by kernel_rfl) (fun _ _ _ h => h) (Or.inl ⟨by rfl, ?_⟩) hS0 ?_
      rotate_left
      · intro w hSw; obtain ⟨z1, z2, z3, z4, z5, z6⟩ := hSw; go_simp; try with_reducible rfl
      (try simp only [Act.put, List.setIfInBounds_toArray, List.set_cons_zero, List.set_cons_succ])
      refine wpAnyH_take (i := 1) (oi := { dst := some 32, op := Op.move (Operand.tmp 6), type := 44, pos := _, after := #[], guard := none }) (v := ?_) rfl (by kernel_rfl) (by kernel_rfl) (by kernel_rfl) (fun _ _ _ h => h) (Or.inl ⟨by rfl, ?_⟩) hS0 ?_
      rotate_left
      · intro w hSw; obtain ⟨z1, z2, z3, z4, z5, z6⟩ := hSw; go_simp; try with_reducible rfl
      (try simp only [Act.put, List.setIfInBounds_toArray, List.set_cons_zero, List.set_cons_succ])
      refine wpAnyH_take (i := 2) (oi := { dst := some 33, op := Op.move (Operand.tmp 7), type := 3, pos := _, after := #[], guard := none }) (v := ?_) rfl (by kernel_rfl) (by kernel_rfl) (by kernel_rfl) (fun _ _ _ h => h) (Or.inl ⟨by rfl, ?_⟩) hS0 ?_
      rotate_left
      · intro w hSw; obtain ⟨z1, z2, z3, z4, z5, z6⟩ := hSw; go_simp; try with_reducible rfl
      (try simp only [Act.put, List.setIfInBounds_toArray, List.set_cons_zero, List.set_cons_succ])
      refine wpAnyH_take (i := 3) (oi := { dst := some 34, op := Op.indexAddr 44 (Operand.tmp 32) (Operand.tmp 33), type := 0, pos := _, after := #[{ on := 1, ground := Ground.data }, { on := 2, ground := Ground.data }], guard := none }) (v := ?_) rfl (by kernel_rfl) (by kernel_rfl) (by kernel_rfl) (fun _ _ _ h => h) (Or.inl ⟨by rfl, ?_⟩) hS0 ?_
      rotate_left
      · intro w hSw; obtain ⟨z1, z2, z3, z4, z5, z6⟩ := hSw; go_simp; try with_reducible rfl
      (try simp only [Act.put, List.setIfInBounds_toArray, List.set_cons_zero, List.set_cons_succ])
      refine wpAnyH_take (i := 4) (oi := { dst := some 35, op := Op.load 48 (Operand.tmp 34), type := 48, pos := _, after := #[{ on := 3, ground := Ground.data }], guard := none }) (v := ?_) rfl (by kernel_rfl) (by kernel_rfl) (by kernel_rfl) (fun _ _ _ h => h) (Or.inl ⟨by rfl, ?_⟩) hS0 ?_
      rotate_left
      · intro w hSw; obtain ⟨z1, z2, z3, z4, z5, z6⟩ := hSw; go_simp; try with_reducible rfl
      (try simp only [Act.put, List.setIfInBounds_toArray, List.set_cons_zero, List.set_cons_succ])
      refine wpAnyH_ready (rs := [5, 10]) (by kernel_rfl) (by simp) (AllReadyH.cons (o := { dst := some 36, op := Op.call { callee := Callee.value (Operand.func 23), args := #[Operand.tmp 31, Operand.tmp 35], argTypes := #[43, 48] }, type := 49, pos := _, after := #[{ on := 0, ground := Ground.data }, { on := 4, ground := Ground.data }], guard := none }) rfl (fun K hK => ?_) (AllReadyH.cons (o := { dst := some 8, op := Op.alloc 43, type := 0, pos := _, after := #[], guard := none }) rfl (fun K hK => ?_) AllReadyH.nil))
      · go_simp
        go_at_call 23
        refine (HDO.out (farR g bo bn v4 gB w.heap.size) _ (hrf4.later hB0) (hrb4.later hB0) HAB4.out HF4.out).mono ?_
        rintro e v5 ⟨A5, n5, c5, rfl, hc5, h5, d5⟩
        have B5 := blater hB0 (Nat.le_refl _) d5
        have S5 := opS B5 rfl s0
        go_simp
        refine hK.out _ _ S5 (fun hHeld => ?_)
        clear hK K hHeld
        (try simp only [Act.put, List.setIfInBounds_toArray, List.set_cons_zero, List.set_cons_succ])
        refine wpAnyH_take (i := 6) (oi := { dst := some 30, op := Op.move (Operand.tmp 36), type := 49, pos := _, after := #[{ on := 5, ground := Ground.data }], guard := none }) (v := ?_) rfl (by kernel_rfl) (by kernel_rfl) (by kernel_rfl) (fun _ _ _ h => h) (Or.inl ⟨by rfl, ?_⟩) S5 ?_
        rotate_left
        · intro w hSw; obtain ⟨z1, z2, z3, z4, z5, z6⟩ := hSw; go_simp; try with_reducible rfl
        (try simp only [Act.put, List.setIfInBounds_toArray, List.set_cons_zero, List.set_cons_succ])
        refine wpAnyH_take (i := 7) (oi := { dst := some 37, op := Op.extract (Operand.tmp 30) 0, type := 43, pos := _, after := #[{ on := 6, ground := Ground.data }], guard := none }) (v := ?_) rfl (by kernel_rfl) (by kernel_rfl) (by kernel_rfl) (fun _ _ _ h => h) (Or.inl ⟨by rfl, ?_⟩) S5 ?_
        rotate_left
        · intro w hSw; obtain ⟨z1, z2, z3, z4, z5, z6⟩ := hSw; go_simp; try with_reducible rfl
        (try simp only [Act.put, List.setIfInBounds_toArray, List.set_cons_zero, List.set_cons_succ])
        refine wpAnyH_take (i := 8) (oi := { dst := some 38, op := Op.extract (Operand.tmp 30) 1, type := 23, pos := _, after := #[{ on := 6, ground := Ground.data }, { on := 11, ground := Ground.gcOnly Departure.lateStores }], guard := none }) (v := ?_) rfl (by kernel_rfl) (by kernel_rfl) (by kernel_rfl) (fun _ _ _ h => h) (Or.inl ⟨by rfl, ?_⟩) S5 ?_
        rotate_left
        · intro w hSw; obtain ⟨z1, z2, z3, z4, z5, z6⟩ := hSw; go_simp; try with_reducible rfl
        (try simp only [Act.put, List.setIfInBounds_toArray, List.set_cons_zero, List.set_cons_succ])
        refine wpAnyH_take (i := 9) (oi := { dst := some 39, op := Op.extract (Operand.tmp 30) 2, type := 27, pos := _, after := #[{ on := 6, ground := Ground.data }, { on := 12, ground := Ground.gcOnly Departure.lateStores }], guard := none }) (v := ?_) rfl (by kernel_rfl) (by kernel_rfl) (by kernel_rfl) (fun _ _ _ h => h) (Or.inl ⟨by rfl, ?_⟩) S5 ?_
        rotate_left
        · intro w hSw; obtain ⟨z1, z2, z3, z4, z5, z6⟩ := hSw; go_simp; try with_reducible rfl
        (try simp only [Act.put, List.setIfInBounds_toArray, List.set_cons_zero, List.set_cons_succ])
        refine wpAnyH_ready (rs := [10]) (by kernel_rfl) (by simp) (AllReadyH.cons (o := { dst := some 8, op := Op.alloc 43, type := 0, pos := _, after := #[], guard := none }) rfl (fun K hK => ?_) AllReadyH.nil)
        go_simp
        obtain ⟨v6, hv6⟩ : ∃ y, World.alloc v5 (.cells #[.slice none 0 0, .int .i64 0] 43) = y := ⟨_, rfl⟩
        have d6 : Below v5.heap.size v5 v6 := by rw [← hv6]; exact (Below.refl _ _).alloc (Nat.le_refl _) _
        have B6 := blater B5 (Nat.le_refl _) d6
        have S6 := opS B6 rfl s0
        have h6 := h5.turn (Turn.of_below _ d6) (G := fun i => farR g bo bn v4 gB w.heap.size i ∨ i = v5.heap.size) (fun i hi => by rcases hi with hi | hi; exact .inl hi; exact .inr (by omega))
        have tA : Two v6 v5.heap.size 43 (.slice none 0 0) (.int .i64 0) := by rw [← hv6]; exact Two.new v5 _ _ _
        have hx := B5.size
        try rw [hv6]
        clear hv6
        refine hK.out _ _ S6 (fun hHeld => ?_)
        clear hK K hHeld
        (try simp only [Act.put, List.setIfInBounds_toArray, List.set_cons_zero, List.set_cons_succ])
        refine wpAnyH_ready (rs := [11]) (by kernel_rfl) (by simp) (AllReadyH.cons (o := { dst := none, op := Op.store 43 (Operand.tmp 8) (Operand.tmp 37), type := 0, pos := _, after := #[{ on := 10, ground := Ground.data }, { on := 7, ground := Ground.data }, { on := 5, ground := Ground.chain }, { on := 0, ground := Ground.phase }, { on := 1, ground := Ground.phase }, { on := 2, ground := Ground.phase }, { on := 3, ground := Ground.phase }, { on := 4, ground := Ground.phase }, { on := 5, ground := Ground.phase }, { on := 6, ground := Ground.phase }, { on := 7, ground := Ground.phase }, { on := 8, ground := Ground.textOnly Departure.lateStores }, { on := 9, ground := Ground.textOnly Departure.lateStores }, { on := 10, ground := Ground.phase }], guard := none }) rfl (fun K hK => ?_) AllReadyH.nil)
        have k0 := tA.cell0
        have k1 := tA.cell1
        have k2 := tA.frozen0
        have k3 := tA.frozen1
        go_simp
        obtain ⟨w9, hw9⟩ : ∃ y, (World.setCell v6 ⟨v5.heap.size, 0, none⟩ (.slice A5 n5 c5)).setCell ⟨v5.heap.size, 1, none⟩ (.int .i64 (sc4 : Int)) = y := ⟨_, rfl⟩
        have t9 : Turn (fun i => i = v5.heap.size) v6 w9 := by rw [← hw9]; exact two_turn _ _
        have tw9 : Two w9 v5.heap.size 43 (.slice A5 n5 c5) (.int .i64 (sc4 : Int)) := by rw [← hw9]; exact (tA.set0 _).set1 _
        have B9 : Below w4.heap.size w4 w9 := B6.trans (t9.below B6.size (fun i hi => by have := hx; omega))
        have S9 := opS B9 rfl s0
        have h9 : RefAt w9 (farR g bo bn v4 gB w.heap.size) A5 n5 L' := h6.turn (F := fun i => farR g bo bn v4 gB w.heap.size i ∨ i = v5.heap.size) (t9.wide (fun i hi => .inr hi)) (fun i hi => .inl (.inl hi))
        try rw [hw9]
        clear hw9 k0 k1 k2 k3
        refine hK.out _ _ S9 (fun hHeld => ?_)
        clear hK K hHeld
        (try simp only [Act.put, List.setIfInBounds_toArray, List.set_cons_zero, List.set_cons_succ])
        refine wpAnyH_take (i := 12) (oi := { dst := some 9, op := Op.assign (Operand.tmp 38), type := 23, pos := _, after := #[{ on := 8, ground := Ground.data }, { on := 11, ground := Ground.chain }, { on := 0, ground := Ground.phase }, { on := 1, ground := Ground.phase }, { on := 2, ground := Ground.phase }, { on := 3, ground := Ground.phase }, { on := 4, ground := Ground.phase }, { on := 5, ground := Ground.phase }, { on := 6, ground := Ground.phase }, { on := 7, ground := Ground.phase }, { on := 8, ground := Ground.phase }, { on := 9, ground := Ground.textOnly Departure.lateStores }, { on := 10, ground := Ground.phase }, { on := 11, ground := Ground.phase }], guard := none }) (v := ?_) rfl (by kernel_rfl) (by kernel_rfl) (by kernel_rfl) (fun _ _ _ h => h) (Or.inl ⟨by rfl, ?_⟩) S9 ?_
        rotate_left
        · intro w hSw; obtain ⟨z1, z2, z3, z4, z5, z6⟩ := hSw; go_simp; try with_reducible rfl
        (try simp only [Act.put, List.setIfInBounds_toArray, List.set_cons_zero, List.set_cons_succ])
        refine wpAnyH_take (i := 13) (oi := { dst := some 10, op := Op.assign (Operand.tmp 39), type := 27, pos := _, after := #[{ on := 9, ground := Ground.data }, { on := 12, ground := Ground.chain }, { on := 0, ground := Ground.phase }, { on := 1, ground := Ground.phase }, { on := 2, ground := Ground.phase }, { on := 3, ground := Ground.phase }, { on := 4, ground := Ground.phase }, { on := 5, ground := Ground.phase }, { on := 6, ground := Ground.phase }, { on := 7, ground := Ground.phase }, { on := 8, ground := Ground.phase }, { on := 9, ground := Ground.phase }, { on := 10, ground := Ground.phase }, { on := 11, ground := Ground.phase }, { on := 12, ground := Ground.phase }], guard := none }) (v := ?_) rfl (by kernel_rfl) (by kernel_rfl) (by kernel_rfl) (fun _ _ _ h => h) (Or.inl ⟨by rfl, ?_⟩) S9 ?_
        rotate_left
        · intro w hSw; obtain ⟨z1, z2, z3, z4, z5, z6⟩ := hSw; go_simp; try with_reducible rfl
        (try simp only [Act.put, List.setIfInBounds_toArray, List.set_cons_zero, List.set_cons_succ])
        refine wpAnyH_done (by kernel_rfl) ?_ _
        have tB9 := tB4.below B9
        obtain ⟨w10, hw10⟩ : ∃ y, (w9.setCell ⟨gB, 0, none⟩ (.slice A5 n5 c5)).setCell ⟨gB, 1, none⟩ (.int .i64 (sc4 : Int)) = y := ⟨_, rfl⟩
        have t10 : Turn (fun i => i = gB) w9 w10 := by rw [← hw10]; exact two_turn _ _
        have tB10 : Two w10 gB 43 (.slice A5 n5 c5) (.int .i64 (sc4 : Int)) := by rw [← hw10]; exact (tB9.set0 _).set1 _
        have hs10 := (hs4.later B9).box tB9 (fun c e => by cases e) (fun c e => by cases e) hnB4 t10
        have hrf10 := h9.turn (F := farR g bo bn v4 gB w.heap.size) (t10.wide (fun i hi => .inr (.inl hi))) (fun i hi => .inl hi)
        have hop10 := (hop4.turn (Turn.of_below _ B9) (fun i hi => .inl hi)).turn (F := farR g bo bn v4 gB w.heap.size) (G := farR g bo bn v4 gB w.heap.size) (t10.wide (fun i hi => .inr (.inl hi))) (fun i hi => .inl hi)
        have hB10 := (blater hB4 (Nat.le_refl _) B9).trans (t10.below (blater hB4 (Nat.le_refl _) B9).size (fun i hi => by omega))
        have y0 := tw9.cell0
        have y1 := tw9.cell1
        have y2 := tB9.cell0
        have y3 := tB9.cell1
        have y4 := tB9.frozen0
        have y5 := tB9.frozen1
        have u0 := tB10.cell0
        have u1 := tB10.cell1
        have hn5 := hrf10.1
        go_wp2_with fail
        try rw [hw10]
        try clear hw10
        go_roundw
        case rel => exact ⟨i + 1, v4, L', sy4, A5, n5, c5, sc4, by omega, by go_num, by omega, hs10, hop10, tB10, hrf10, hc5, by omega, HS2, HGF, hnB4, hB10⟩
        case measure => simp [intOf]; omega
      · go_simp
        obtain ⟨v5, hv5⟩ : ∃ y, (World.alloc w4 (.cells #[.slice none 0 0, .int .i64 0] 43)).drew = y := ⟨_, rfl⟩
        have d5 : Below w4.drew.heap.size w4.drew v5 := by rw [← hv5]; exact (Below.refl _ _).alloc (Nat.le_refl _) _
        have B5 := blater hB0 (Nat.le_refl _) d5
        have S5 := opS B5 rfl s0
        have tA : Two v5 w4.heap.size 43 (.slice none 0 0) (.int .i64 0) := by rw [← hv5]; exact Two.new w4.drew _ _ _
        try rw [hv5]
        clear hv5
        refine hK.out _ _ S5 (fun hHeld => ?_)
        clear hK K hHeld
        (try simp only [Act.put, List.setIfInBounds_toArray, List.set_cons_zero, List.set_cons_succ])
        refine wpAnyH_ready (rs := [5]) (by kernel_rfl) (by simp) (AllReadyH.cons (o := { dst := some 36, op := Op.call { callee := Callee.value (Operand.func 23), args := #[Operand.tmp 31, Operand.tmp 35], argTypes := #[43, 48] }, type := 49, pos := _, after := #[{ on := 0, ground := Ground.data }, { on := 4, ground := Ground.data }], guard := none }) rfl (fun K hK => ?_) AllReadyH.nil)
        go_simp
        go_at_call 23
        refine (HDO.out (fun i => farR g bo bn v4 gB w.heap.size i ∨ i = w4.heap.size) _ ((hrf4.turn (Turn.refl _ _) (G := fun i => farR g bo bn v4 gB w.heap.size i ∨ i = w4.heap.size) (fun i hi => by rcases hi with hi | hi; exact .inl hi; exact .inr (by omega))).later B5) (hrb4.later B5) (fun ad e => ⟨Nat.lt_of_lt_of_le (HAB4.out ad e).1 B5.size, fun h => by rcases h with h | h; exact (HAB4.out ad e).2 h; have := (HAB4.out ad e).1; omega⟩) (fun i hi => by rcases hi with hi | hi; exact Nat.lt_of_lt_of_le (HF4.out i hi) B5.size; subst hi; exact tA.lt)).mono ?_
        rintro e v6 ⟨A5, n5, c5, rfl, hc5, h6, d6⟩
        have B6 := blater B5 (Nat.le_refl _) d6
        have S6 := opS B6 rfl s0
        have tA6 := tA.below d6
        have hx := Nat.le_refl w4.heap.size
        go_simp
        refine hK.out _ _ S6 (fun hHeld => ?_)
        clear hK K hHeld
        (try simp only [Act.put, List.setIfInBounds_toArray, List.set_cons_zero, List.set_cons_succ])
        refine wpAnyH_take (i := 6) (oi := { dst := some 30, op := Op.move (Operand.tmp 36), type := 49, pos := _, after := #[{ on := 5, ground := Ground.data }], guard := none }) (v := ?_) rfl (by kernel_rfl) (by kernel_rfl) (by kernel_rfl) (fun _ _ _ h => h) (Or.inl ⟨by rfl, ?_⟩) S6 ?_
        rotate_left
        · intro w hSw; obtain ⟨z1, z2, z3, z4, z5, z6⟩ := hSw; go_simp; try with_reducible rfl
        (try simp only [Act.put, List.setIfInBounds_toArray, List.set_cons_zero, List.set_cons_succ])
        refine wpAnyH_take (i := 7) (oi := { dst := some 37, op := Op.extract (Operand.tmp 30) 0, type := 43, pos := _, after := #[{ on := 6, ground := Ground.data }], guard := none }) (v := ?_) rfl (by kernel_rfl) (by kernel_rfl) (by kernel_rfl) (fun _ _ _ h => h) (Or.inl ⟨by rfl, ?_⟩) S6 ?_
        rotate_left
        · intro w hSw; obtain ⟨z1, z2, z3, z4, z5, z6⟩ := hSw; go_simp; try with_reducible rfl
        (try simp only [Act.put, List.setIfInBounds_toArray, List.set_cons_zero, List.set_cons_succ])
        refine wpAnyH_take (i := 8) (oi := { dst := some 38, op := Op.extract (Operand.tmp 30) 1, type := 23, pos := _, after := #[{ on := 6, ground := Ground.data }, { on := 11, ground := Ground.gcOnly Departure.lateStores }], guard := none }) (v := ?_) rfl (by kernel_rfl) (by kernel_rfl) (by kernel_rfl) (fun _ _ _ h => h) (Or.inl ⟨by rfl, ?_⟩) S6 ?_
        rotate_left
        · intro w hSw; obtain ⟨z1, z2, z3, z4, z5, z6⟩ := hSw; go_simp; try with_reducible rfl
        (try simp only [Act.put, List.setIfInBounds_toArray, List.set_cons_zero, List.set_cons_succ])
        refine wpAnyH_take (i := 9) (oi := { dst := some 39, op := Op.extract (Operand.tmp 30) 2, type := 27, pos := _, after := #[{ on := 6, ground := Ground.data }, { on := 12, ground := Ground.gcOnly Departure.lateStores }], guard := none }) (v := ?_) rfl (by kernel_rfl) (by kernel_rfl) (by kernel_rfl) (fun _ _ _ h => h) (Or.inl ⟨by rfl, ?_⟩) S6 ?_
        rotate_left
        · intro w hSw; obtain ⟨z1, z2, z3, z4, z5, z6⟩ := hSw; go_simp; try with_reducible rfl
        (try simp only [Act.put, List.setIfInBounds_toArray, List.set_cons_zero, List.set_cons_succ])
        refine wpAnyH_ready (rs := [11]) (by kernel_rfl) (by simp) (AllReadyH.cons (o := { dst := none, op := Op.store 43 (Operand.tmp 8) (Operand.tmp 37), type := 0, pos := _, after := #[{ on := 10, ground := Ground.data }, { on := 7, ground := Ground.data }, { on := 5, ground := Ground.chain }, { on := 0, ground := Ground.phase }, { on := 1, ground := Ground.phase }, { on := 2, ground := Ground.phase }, { on := 3, ground := Ground.phase }, { on := 4, ground := Ground.phase }, { on := 5, ground := Ground.phase }, { on := 6, ground := Ground.phase }, { on := 7, ground := Ground.phase }, { on := 8, ground := Ground.textOnly Departure.lateStores }, { on := 9, ground := Ground.textOnly Departure.lateStores }, { on := 10, ground := Ground.phase }], guard := none }) rfl (fun K hK => ?_) AllReadyH.nil)
        have k0 := tA6.cell0
        have k1 := tA6.cell1
        have k2 := tA6.frozen0
        have k3 := tA6.frozen1
        go_simp
        obtain ⟨w9, hw9⟩ : ∃ y, (World.setCell v6 ⟨w4.heap.size, 0, none⟩ (.slice A5 n5 c5)).setCell ⟨w4.heap.size, 1, none⟩ (.int .i64 (sc4 : Int)) = y := ⟨_, rfl⟩
        have t9 : Turn (fun i => i = w4.heap.size) v6 w9 := by rw [← hw9]; exact two_turn _ _
        have tw9 : Two w9 w4.heap.size 43 (.slice A5 n5 c5) (.int .i64 (sc4 : Int)) := by rw [← hw9]; exact (tA6.set0 _).set1 _
        have B9 : Below w4.heap.size w4 w9 := B6.trans (t9.below B6.size (fun i hi => by have := hx; omega))
        have S9 := opS B9 rfl s0
        have h9 : RefAt w9 (farR g bo bn v4 gB w.heap.size) A5 n5 L' := h6.turn (F := fun i => farR g bo bn v4 gB w.heap.size i ∨ i = w4.heap.size) (t9.wide (fun i hi => .inr hi)) (fun i hi => .inl (.inl hi))
        try rw [hw9]
        clear hw9 k0 k1 k2 k3
        refine hK.out _ _ S9 (fun hHeld => ?_)
        clear hK K hHeld
        (try simp only [Act.put, List.setIfInBounds_toArray, List.set_cons_zero, List.set_cons_succ])
        refine wpAnyH_take (i := 12) (oi := { dst := some 9, op := Op.assign (Operand.tmp 38), type := 23, pos := _, after := #[{ on := 8, ground := Ground.data }, { on := 11, ground := Ground.chain }, { on := 0, ground := Ground.phase }, { on := 1, ground := Ground.phase }, { on := 2, ground := Ground.phase }, { on := 3, ground := Ground.phase }, { on := 4, ground := Ground.phase }, { on := 5, ground := Ground.phase }, { on := 6, ground := Ground.phase }, { on := 7, ground := Ground.phase }, { on := 8, ground := Ground.phase }, { on := 9, ground := Ground.textOnly Departure.lateStores }, { on := 10, ground := Ground.phase }, { on := 11, ground := Ground.phase }], guard := none }) (v := ?_) rfl (by kernel_rfl) (by kernel_rfl) (by kernel_rfl) (fun _ _ _ h => h) (Or.inl ⟨by rfl, ?_⟩) S9 ?_
        rotate_left
        · intro w hSw; obtain ⟨z1, z2, z3, z4, z5, z6⟩ := hSw; go_simp; try with_reducible rfl
        (try simp only [Act.put, List.setIfInBounds_toArray, List.set_cons_zero, List.set_cons_succ])
        refine wpAnyH_take (i := 13) (oi := { dst := some 10, op := Op.assign (Operand.tmp 39), type := 27, pos := _, after := #[{ on := 9, ground := Ground.data }, { on := 12, ground := Ground.chain }, { on := 0, ground := Ground.phase }, { on := 1, ground := Ground.phase }, { on := 2, ground := Ground.phase }, { on := 3, ground := Ground.phase }, { on := 4, ground := Ground.phase }, { on := 5, ground := Ground.phase }, { on := 6, ground := Ground.phase }, { on := 7, ground := Ground.phase }, { on := 8, ground := Ground.phase }, { on := 9, ground := Ground.phase }, { on := 10, ground := Ground.phase }, { on := 11, ground := Ground.phase }, { on := 12, ground := Ground.phase }], guard := none }) (v := ?_) rfl (by kernel_rfl) (by kernel_rfl) (by kernel_rfl) (fun _ _ _ h => h) (Or.inl ⟨by rfl, ?_⟩) S9 ?_
        rotate_left
        · intro w hSw; obtain ⟨z1, z2, z3, z4, z5, z6⟩ := hSw; go_simp; try with_reducible rfl
        (try simp only [Act.put, List.setIfInBounds_toArray, List.set_cons_zero, List.set_cons_succ])
        refine wpAnyH_done (by kernel_rfl) ?_ _
        have tB9 := tB4.below B9
        obtain ⟨w10, hw10⟩ : ∃ y, (w9.setCell ⟨gB, 0, none⟩ (.slice A5 n5 c5)).setCell ⟨gB, 1, none⟩ (.int .i64 (sc4 : Int)) = y := ⟨_, rfl⟩
        have t10 : Turn (fun i => i = gB) w9 w10 := by rw [← hw10]; exact two_turn _ _
        have tB10 : Two w10 gB 43 (.slice A5 n5 c5) (.int .i64 (sc4 : Int)) := by rw [← hw10]; exact (tB9.set0 _).set1 _
        have hs10 := (hs4.later B9).box tB9 (fun c e => by cases e) (fun c e => by cases e) hnB4 t10
        have hrf10 := h9.turn (F := farR g bo bn v4 gB w.heap.size) (t10.wide (fun i hi => .inr (.inl hi))) (fun i hi => .inl hi)
        have hop10 := (hop4.turn (Turn.of_below _ B9) (fun i hi => .inl hi)).turn (F := farR g bo bn v4 gB w.heap.size) (G := farR g bo bn v4 gB w.heap.size) (t10.wide (fun i hi => .inr (.inl hi))) (fun i hi => .inl hi)
        have hB10 := (blater hB4 (Nat.le_refl _) B9).trans (t10.below (blater hB4 (Nat.le_refl _) B9).size (fun i hi => by omega))
        have y0 := tw9.cell0
        have y1 := tw9.cell1
        have y2 := tB9.cell0
        have y3 := tB9.cell1
        have y4 := tB9.frozen0
        have y5 := tB9.frozen1
        have u0 := tB10.cell0
        have u1 := tB10.cell1
        have hn5 := hrf10.1
        go_wp2_with fail
        try rw [hw10]
        try clear hw10
        go_roundw
        case rel => exact ⟨i + 1, v4, L', sy4, A5, n5, c5, sc4, by omega, by go_num, by omega, hs10, hop10, tB10, hrf10, hc5, by omega, HS2, HGF, hnB4, hB10⟩
        case measure => simp [intOf]; omega
      -- END
    · have hi2' : (n0 : Int) ≤ (i : Int) := by omega
      have b0 := tB.cell0
      have b1 := tB.cell1
      have trz : Two wr w.heap.size 43 (.slice none 0 0) (.int .i64 0) := (hB.block _ (by have := SR.out; omega)).trans tR
      have r0 := trz.cell0
      have r1 := trz.cell1
      have r2 := trz.frozen0
      have r3 := trz.frozen1
      go_wp2_with fail
      have e0 : wr.drew.cell? ⟨gB, 0, none⟩ = some (.slice A n cap) := b0
      have e1 : wr.drew.cell? ⟨gB, 1, none⟩ = some (.int .i64 (sc : Int)) := b1
      have hgne : gB ≠ w.heap.size := by have := SR.out; omega
      have hz := And.intro ((two_turn (w := wr) (g := w.heap.size) (.slice A n cap) (.int .i64 (sc : Int))).cell b0 (by show ¬ gB = w.heap.size; exact hgne)) ((two_turn (w := wr) (g := w.heap.size) (.slice A n cap) (.int .i64 (sc : Int))).cell b1 (by show ¬ gB = w.heap.size; exact hgne))
      go_region_held3 (fun w' => w'.cell? ⟨gB, 0, none⟩ = some (.slice A n cap) ∧ w'.cell? ⟨gB, 1, none⟩ = some (.int .i64 (sc : Int)))
        (first | exact ⟨e0, e1⟩ | exact hz | assumption) (fail)
      all_goals
        go_wp2_with fail
        (try simp only [Exit.inBlock, Exit.then])
        have t9 := two_turn (w := wr) (g := w.heap.size) (.slice A n cap) (.int .i64 (sc : Int))
        have hnR : ¬ far g bo bn v w.heap.size := fun h => by have := hs.far_base _ h; have := SR.out; omega
        have hs9 := (hs.box trz (fun c e => by cases e) (fun c e => by cases e) hnR t9).rebase (b := w.heap.size) (by have := SR.out; omega)
        have hr9 := hrf.turn (F := farR g bo bn v gB w.heap.size) (G := far g bo bn v) (t9.wide (fun i hi => .inr (.inr hi))) (fun i hi => .inl (.inl hi))
        have tw9 := (trz.set0 (.slice A n cap)).set1 (.int .i64 (sc : Int))
        have hb9 : Below w.heap.size w _ := (dr.trans (Below.mono hB (by have := SR.out; omega))).trans (t9.below (by have := hB.size; have := SR.out; omega) (fun i hi => by omega))
        have hdz := Below.drew (Below.refl (((wr.setCell ⟨w.heap.size, 0, none⟩ (.slice A n cap)).setCell ⟨w.heap.size, 1, none⟩ (.int .i64 (sc : Int))).heap.size) ((wr.setCell ⟨w.heap.size, 0, none⟩ (.slice A n cap)).setCell ⟨w.heap.size, 1, none⟩ (.int .i64 (sc : Int))))
        refine bodyPost_ret (res_tS rfl _ _ _ _ _ rfl (tw9.below hdz)) rfl ?_
        exact ⟨g, bo, bn, v, L, sy, A, n, cap, sc, rfl, hs9.later hdz, hr9.later hdz, hnc2, hscn, hsy.out, by omega, hgf.out, blater hb9 (Nat.le_refl _) hdz⟩
end Go.Proofs.Ytfanhbemmjcomaa
