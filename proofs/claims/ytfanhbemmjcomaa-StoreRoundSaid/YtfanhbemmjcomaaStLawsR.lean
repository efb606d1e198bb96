/- The law StoreRound, walked. -/
import Derived.Test.YtfanhbemmjcomaaStOpen
import Derived.Test.YtfanhbemmjcomaaStBuilt
namespace Go.Proofs.Ytfanhbemmjcomaa
open Go.RowKit
set_option linter.unusedVariables false

namespace S
theorem get_app_some {k : UInt64} {c : List UInt8} : ∀ {P : List R} (Y : List R), get P k = some c → get (P ++ Y) k = some c
  | P, [], h => by rwa [List.append_nil]
  | P, y :: Y, h => by
    rw [show P ++ y :: Y = (P ++ [y]) ++ Y by simp]
    refine get_app_some Y ?_
    cases y with
    | obj b => exact get_snoc_some h
    | bind n j => rw [get_snoc_bind]; exact h
theorem Good.get_at {L : List R} (h : Good L) {i : Nat} {b : List UInt8} (hi : L[i]? = some (.obj b)) : get L (key b) = some b ∧ b.length ≤ 65536 := by
  have hlt : i < L.length := (List.getElem?_eq_some_iff.1 hi).1
  have e : L = L.take i ++ .obj b :: L.drop (i + 1) := by
    have h1 : L[i] = .obj b := (List.getElem?_eq_some_iff.1 hi).2
    rw [← h1, ← List.drop_eq_getElem_cons hlt, List.take_append_drop]
  have hf := h _ _ _ e
  refine ⟨?_, hf.2⟩
  rw [e, show L.take i ++ .obj b :: L.drop (i + 1) = (L.take i ++ [.obj b]) ++ L.drop (i + 1) by simp]
  exact get_app_some _ (get_snoc_hit rfl hf.1)
theorem put_same {L : List R} {b : List UInt8} (h : get L (key b) = some b) (hl : b.length ≤ 65536) : put L b = (L, key b, 0) := by
  unfold put
  rw [if_neg (by omega), h]
  exact if_pos rfl
theorem look_bound : ∀ (m : Nat) (L : List R), L.length = m → Good L → ∀ n k, look L n = some k → ∃ c, get L k = some c
  | 0, L, hl, hg, n, k, h => by
    obtain rfl := List.eq_nil_of_length_eq_zero hl
    cases h
  | m + 1, L, hl, hg, n, k, h => by
    rcases List.eq_nil_or_concat L with rfl | ⟨P, r, rfl⟩
    · cases hl
    rw [List.concat_eq_append] at hl hg h ⊢
    · have hP : P.length = m := by simpa using hl
      have ih := look_bound m P hP hg.left n k
      cases r with
      | obj b =>
        rw [look_snoc_obj] at h
        obtain ⟨c, hc⟩ := ih h
        exact ⟨c, get_snoc_some hc⟩
      | bind a j =>
        rw [look_snoc_bind] at h
        by_cases ha : a = n
        · rw [if_pos ha] at h
          injection h with h; subst h
          obtain ⟨c, hc⟩ := (hg P (.bind a j) [] rfl).1
          exact ⟨c, by rw [get_snoc_bind]; exact hc⟩
        · rw [if_neg ha] at h
          obtain ⟨c, hc⟩ := ih h
          exact ⟨c, by rw [get_snoc_bind]; exact hc⟩
theorem bind_same {L : List R} (hg : Good L) {n k : UInt64} (h : look L n = some k) : bind L n k = (L, 0) := by
  obtain ⟨c, hc⟩ := look_bound _ L rfl hg n k h
  unfold bind
  rw [hc]
  exact if_pos h
theorem log_cut {L : List R} {n k : Nat} (hn : (log L).length = n) (h : Cut L n k) : L.take k = L := by
  obtain ⟨h1, h2, h3⟩ := h
  by_cases hk : k < L.length
  · have h4 := h3 hk
    have : log L = log (L.take (k + 1)) ++ log (L.drop (k + 1)) := by
      unfold log
      rw [← List.flatMap_append, List.take_append_drop]
    have := congrArg List.length this
    rw [List.length_append] at this
    omega
  · exact List.take_of_length_le (by omega)
end S
/-- Whatever lies below B stays: all that turned is in F. -/
theorem Turn.of_from {F : Nat → Prop} {B : Nat} {a b : World} (h : Below B a b) (hF : ∀ i, B ≤ i → F i) : Turn F a b :=
  ⟨h.os, h.tape, h.output, h.size, fun i hi hn => h.block i (Nat.lt_of_not_le (fun e => hn (hF i e)))⟩

/-- The bytes that were opened, as a string. -/
def RoundS (A : Option Addr) (n c : Nat) (l : List UInt8) (W : World) : Prop := (convert 22 9 (.slice A n c)).run Try.prog W = .ok (.string ⟨l.toArray⟩) W ∧ True
set_option maxRecDepth 10000 in
set_option maxHeartbeats 8000000 in
theorem storeRound_walk (a : Option Addr) (len cap : Nat) (zs : List Int) (w : World) (hr : IsRow .i64 w a len cap zs) :
    Calls Try.prog 8 #[.slice a len cap] w fun e W' => e = .returned (.bool true) ∧ Below w.heap.size w W' := by
  obtain ⟨ks, hkl, hlc, hcm, hrd, hwf⟩ := isRow_ints hr
  have HB := Lib.hid (built_any a len cap ks hkl (by omega) (fun n hn => wf_bd (hwf n hn)) w hrd)
  clear hkl hlc hcm hwf hr hrd
  go_enter Try.func8, Try.ntmps8
  go_wp2_with fail
  refine HB.out.mono ?_
  rintro e w1 ⟨g, bo, bn, v, L, sy, A, n, cap, sc, rfl, hs1, hr1, hnc, hscn, hsy, hL16, hgf, hb1⟩
  clear HB
  have tB := Two.new w1 43 (.slice A n cap) (.int .i64 (sc : Int))
  obtain ⟨w2, hw2⟩ : ∃ y, w1.alloc (.cells #[.slice A n cap, .int .i64 (sc : Int)] 43) = y := ⟨_, rfl⟩
  have db : Below w1.heap.size w1 w2 := by rw [← hw2]; exact (Below.refl _ _).alloc (Nat.le_refl _) _
  rw [hw2] at tB
  have hln := hr1.1
  obtain ⟨gB, hgB⟩ : ∃ y, w1.heap.size = y := ⟨_, rfl⟩
  obtain ⟨nl, hnl⟩ : ∃ k, (S.log L).length = k := ⟨_, rfl⟩
  obtain ⟨lg, hlg⟩ : ∃ l, S.log L = l := ⟨_, rfl⟩
  have hlgn : lg.length = nl := by rw [← hlg]; exact hnl
  have HNL := Lib.hid hnl
  have HLG := Lib.hid hlg
  have HLN := Lib.hid hlgn
  have HG := Lib.hid hgf.1
  have hs2 := hs1.later db
  have hb2 := blater hb1 (Nat.le_refl _) db
  have hgw : w.heap.size ≤ gB := by rw [← hgB]; exact hb1.size
  clear hnl hlg hlgn hgf hsy
  go_wp2_with fail
  try rw [hw2]
  rw [hgB] at tB
  try rw [hgB]
  refine (sbytes_any w.heap.size g bo bn sy nl v L HNL.out _ hs2).mono ?_
  rintro e w3 ⟨A3, c3, rfl, hc3, hown3, hd3⟩
  have hb3 := blater hb2 (Nat.le_refl _) hd3
  have hr3 := Reads.of_own hown3
  have tB3 := tB.below hd3
  rw [HLG.out] at hr3
  have hA3 := own_from hown3
  go_wp2_with fail
  refine (open_any A3 nl c3 L HG.out (by omega) (Nat.le_of_eq HNL.out.symm) hc3 w3 (by rw [List.take_of_length_le (Nat.le_of_eq HNL.out), HLG.out]; exact hr3)).mono ?_
  rintro e w4 ⟨g7, bo7, bn7, v7, k7, rfl, hs4, hcut, hd4⟩
  rw [S.log_cut HNL.out hcut, HNL.out] at hs4
  have hb4 := blater hb3 (Nat.le_refl _) hd4
  have hr4 := hr3.below hd4
  have tB4 := tB3.below hd4
  obtain ⟨B, hB⟩ : ∃ y, w3.heap.size = y := ⟨_, rfl⟩
  have hgBB : gB < B := by rw [← hB]; exact tB3.lt
  have tB3l : gB < w2.heap.size := tB.lt
  rw [hB] at hs4 hr4
  have hrf4 : RefAt w4 (fun i => i = gB ∨ B ≤ i) A n L := hr1.turn (Turn.of_below (far g bo bn v) (blater (blater db (Nat.le_refl _) hd3) (by omega) hd4)) (fun i hi => .inr (by
    rcases hi with hi | hi
    · omega
    · omega))
  have b0 := tB4.cell0
  have b1 := tB4.cell1
  have fz := tB4.frozen1
  clear hs1 hr1 hb1 hs2 hb2 hd3 hown3 hr3 tB tB3 hcut hw2 db
  go_wp2_with fail
  obtain ⟨w5, hw5⟩ : ∃ y, w4.setCell ⟨gB, 1, none⟩ (.int .i64 (n : Int)) = y := ⟨_, rfl⟩
  have t5 : Turn (fun i => i = gB) w4 w5 := by rw [← hw5]; exact Turn.of_grown (set1_grown w4 ⟨gB, 1, none⟩ _) (fun i e => .inl (by injection e with e; exact e.symm))
  have tB5 : Two w5 gB 43 (.slice A n cap) (.int .i64 (n : Int)) := by rw [← hw5]; exact tB4.set1 _
  have hnf : ¬ far g7 bo7 bn7 v7 gB := fun h => by have := hs4.far_base _ h; omega
  have hs5 := hs4.box tB4 (fun c e => by cases e) (fun c e => by cases e) hnf t5
  have hrf5 : RefAt w5 (fun i => B ≤ i) A n L := hrf4.turn (t5.wide (fun i hi => .inl hi)) (fun i hi => .inl (.inr hi))
  have hb5 : Below w.heap.size w w5 := hb4.trans (t5.below hb4.size (fun i hi => by omega))
  have hr5 : Reads w5 B 1 A3 nl (bv lg) := t5.reads hr4 (by have := hd4.size; omega) (by
    intro ad e hi
    have h1 := (hA3 ad.block (by rw [e]; rfl)).1
    have h2 : ad.block = gB := hi
    have := tB3l
    omega)
  have hz5 : B ≤ w5.heap.size := by have := hd4.size; have := t5.size; omega
  rw [hw5]
  have hsy5 : (S.log (L.take n)).length = nl := by rw [List.take_of_length_le (by omega)]; exact HNL.out
  have HSY5 := Lib.hid hsy5
  have c0 := tB5.cell0
  have c1 := tB5.cell1
  clear hs4 hr4 hrf4 tB4 b0 b1 fz hb4 hb3 hw5 hsy5 t5
  go_wp2_with fail
  refine (same_any B g7 bo7 bn7 nl v7 L (fun i => B ≤ i) A n cap n (Nat.le_refl _) HSY5.out (by omega) hnc w5 hs5 hrf5).mono ?_
  rintro e w6 ⟨rfl, hd6⟩
  have hs6 := hs5.later hd6
  have hB6 : Below B w5 w6 := hd6.mono hz5
  clear hs5 hd6
  go_wp2_with fail
  go_loopw [8] (fun ix wr => ∃ (i : Nat) (v : Value), i ≤ n ∧ ix = .int .i64 (i : Int) ∧ StAt wr B g7 bo7 bn7 v L nl ∧ Below B w5 wr) (fun ix _ => n - (intOf ix).toNat)
  case atStart => exact ⟨0, v7, Nat.zero_le _, rfl, hs6, hB6⟩
  case round =>
    obtain ⟨i, v, hi1, rfl, hs, hBw⟩ := hrel
    clear hs6 hB6
    have tBw : Two wr gB 43 (.slice A n cap) (.int .i64 (n : Int)) := (hBw.block gB hgBB).trans tB5
    have b0 := tBw.cell0
    have hrfw : RefAt wr (fun i => B ≤ i) A n L := hrf5.turn (Turn.of_from (F := fun i => B ≤ i) hBw (fun i hi => hi)) (fun i hi => .inl hi)
    by_cases hlt : i < n
    · obtain ⟨ga, r, Ab, cb, rfl, hfg, hgl, ho, d0, d1, d2, d3, drb, hrl, hAb⟩ := rec_at hrfw hlt
      have hi1' : (0 : Int) ≤ (i : Int) := by omega
      have hi2' : (i : Int) < (n : Int) := by omega
      have hgaB : ga < B := Nat.lt_of_not_le hfg
      cases r with
      | bind nm ky =>
        have c0 : wr.cell? ⟨ga, i * 4, none⟩ = some (.bool false) := d0
        clear d0 d1 d2 d3 drb ho
        go_wp2_with fail
        go_roundw
        case rel => exact ⟨i + 1, v, by omega, by go_num, hs, hBw⟩
        case measure => simp [intOf]; omega
      | obj b =>
        obtain ⟨kb, hkb⟩ : ∃ k, b.length = k := ⟨_, rfl⟩
        have hgt := HG.out.get_at ho
        obtain ⟨x, hx⟩ : ∃ x, S.key b = x := ⟨_, rfl⟩
        have hp : S.put L b = (L, x, 0) := by rw [S.put_same hgt.1 hgt.2, hx]
        have c0 : wr.cell? ⟨ga, i * 4, none⟩ = some (.bool true) := d0
        have c1 : wr.cell? ⟨ga, i * 4 + 1, none⟩ = some (.slice Ab b.length cb) := d1
        have hrb : Reads wr wr.heap.size 1 Ab b.length (bv b) := drb
        have hbl : b.length ≤ 65536 := hgt.2
        rw [hkb] at c1 hrb hbl
        have HP := Lib.hid hp
        have HX := Lib.hid hx
        have HKB := Lib.hid hkb
        clear d0 d1 d2 d3 drb ho hgt hp hx hkb hrl
        obtain ⟨w7, rfl⟩ : ∃ y, y = wr := ⟨_, rfl⟩
        go_wp2_with fail
        refine (put_any B g7 bo7 bn7 nl v L Ab kb cb b HKB.out (by omega) _ _ _ HP.out _ hs hrb (fun ad e => (hAb ad e).1) (fun ad e hf => (hAb ad e).2 (hs.far_base _ hf))).mono ?_
        rintro e w8 ⟨v8, rfl, hs8, ht8, _⟩
        have b78 : Below B w7 w8 := hs.turn_below ht8 (Nat.le_refl _)
        have hB8 := hBw.trans b78
        have hrb8 := (ht8.reads hrb (Nat.le_refl _) (fun ad e hf => (hAb ad e).2 (hs.far_base _ hf))).more ht8.size
        have b08 := (b78.cell (p := ⟨gB, 0, none⟩) hgBB).trans b0
        have c18 := (b78.cell (p := ⟨ga, i * 4 + 1, none⟩) hgaB).trans c1
        have hz8 : B ≤ w8.heap.size := by have := hB8.size; omega
        clear hs ht8 b78 hBw b0 c0 c1 hrb tBw hrfw
        go_wp2_with fail
        refine (key_any Ab kb cb b x HX.out HKB.out (by omega) w8 hrb8).mono ?_
        rintro e w9 ⟨rfl, hd9⟩
        go_wp2_with fail
        go_roundw
        case rel => exact ⟨i + 1, v8, by omega, by go_num, hs8.later hd9, hB8.trans (hd9.mono hz8)⟩
        case measure => simp [intOf]; omega
    · have hi2' : (n : Int) ≤ (i : Int) := by omega
      obtain ⟨w10, rfl⟩ : ∃ y, y = wr := ⟨_, rfl⟩
      go_wp2_with fail
      go_loopw [11] (fun ix wr => ∃ (j : Nat) (v : Value), j ≤ 4 ∧ ix = .int .u64 (j : Int) ∧ StAt wr B g7 bo7 bn7 v L nl ∧ Below B w5 wr) (fun ix _ => 4 - (intOf ix).toNat)
      case atStart => exact ⟨0, v, Nat.zero_le _, rfl, hs, hBw⟩
      case round =>
        obtain ⟨j, v', hj, rfl, hs', hB'⟩ := hrel
        clear hs hBw tBw hrfw b0
        by_cases hj4 : j < 4
        · have hj1' : (0 : Int) ≤ (j : Int) := by omega
          have hj2' : (j : Int) < 4 := by omega
          have hjx : (j : Int) = ((UInt64.ofNat j).toNat : Int) := by rw [UInt64.toNat_ofNat_of_lt' (by show _ < 18446744073709551616; omega)]
          obtain ⟨w11, rfl⟩ : ∃ y, y = wr := ⟨_, rfl⟩
          cases hlk : S.look L (UInt64.ofNat j) with
          | none =>
            have HK := Lib.hid (show (match S.look L (UInt64.ofNat j) with | some j => (j, true) | none => (0, false)) = ((0 : UInt64), false) by rw [hlk])
            clear hlk
            have HJX := Lib.hid hjx
            clear hjx
            go_wp2_with fail
            refine (lookup_lit (j : Int) B g7 bo7 bn7 nl v' L (UInt64.ofNat j) 0 false HJX.out HK.out _ hs').mono ?_
            rintro e w12 ⟨rfl, rfl⟩
            go_wp2_with fail
            go_roundw
            case rel => exact ⟨j + 1, v', by omega, by go_num, hs', hB'⟩
            case measure => simp [intOf]; omega
          | some ky =>
            have HK := Lib.hid (show (match S.look L (UInt64.ofNat j) with | some j => (j, true) | none => (0, false)) = (ky, true) by rw [hlk])
            have HBD := Lib.hid (S.bind_same HG.out hlk)
            clear hlk
            have HJX := Lib.hid hjx
            clear hjx
            go_wp2_with fail
            refine (lookup_lit (j : Int) B g7 bo7 bn7 nl v' L (UInt64.ofNat j) ky true HJX.out HK.out _ hs').mono ?_
            rintro e w12 ⟨rfl, rfl⟩
            go_wp2_with fail
            refine (bind_lit (j : Int) B g7 bo7 bn7 nl v' L (UInt64.ofNat j) ky HJX.out (by omega) _ _ HBD.out _ hs').mono ?_
            rintro e w12 ⟨v12, rfl, hs12, ht12, _⟩
            have hB12 := hB'.trans (hs'.turn_below ht12 (Nat.le_refl _))
            go_wp2_with fail
            go_roundw
            case rel => exact ⟨j + 1, v12, by omega, by go_num, hs12, hB12⟩
            case measure => simp [intOf]; omega
        · have hj2' : (4 : Int) ≤ (j : Int) := by omega
          go_wp2_with fail
          have hdr : Below wr.heap.size wr wr.drew := Below.drew (Below.refl wr.heap.size wr)
          have hrw : Reads wr.drew wr.drew.heap.size 1 A3 nl (bv lg) := (hr5.below (Below.drew hB')).more (by have := hB'.size; show B ≤ wr.heap.size; omega)
          have hS0 : RoundS A3 nl c3 lg wr.drew := ⟨conv_string wr.drew A3 nl c3 lg HLN.out hrw, trivial⟩
          have hsd := hs'.later hdr
          have hBd : Below B w5 wr.drew := Below.drew hB'
          clear hdr hs' hB'
          refine wp_region_held_drew (S := RoundS A3 nl c3 lg) (by kernel_rfl) hS0 (fun hHeld => ?_)
          clear hHeld
          (try simp only [Act.put, List.setIfInBounds_toArray, List.set_cons_zero, List.set_cons_succ])
          refine wpAnyH_take (i := 0) (oi := { dst := some 97, op := Op.move (Operand.tmp 6), type := 25, pos := _, after := #[], guard := none }) (v := ?_) rfl (by kernel_rfl) (by kernel_rfl) (by kernel_rfl) (fun _ _ _ h => h) (Or.inl ⟨by rfl, ?_⟩) hS0 ?_
          rotate_left
          · intro w hSw; obtain ⟨z1, _⟩ := hSw; go_simp; try with_reducible rfl
          (try simp only [Act.put, List.setIfInBounds_toArray, List.set_cons_zero, List.set_cons_succ])
          refine wpAnyH_take (i := 3) (oi := { dst := some 100, op := Op.move (Operand.tmp 5), type := 22, pos := _, after := #[], guard := none }) (v := ?_) rfl (by kernel_rfl) (by kernel_rfl) (by kernel_rfl) (fun _ _ _ h => h) (Or.inl ⟨by rfl, ?_⟩) hS0 ?_
          rotate_left
          · intro w hSw; obtain ⟨z1, _⟩ := hSw; go_simp; try with_reducible rfl
          (try simp only [Act.put, List.setIfInBounds_toArray, List.set_cons_zero, List.set_cons_succ])
          refine wpAnyH_take (i := 4) (oi := { dst := some 101, op := Op.convert 22 9 (Operand.tmp 100), type := 9, pos := _, after := #[{ on := 3, ground := Ground.data }], guard := none }) (v := ?_) rfl (by kernel_rfl) (by kernel_rfl) (by kernel_rfl) (fun _ _ _ h => h) (Or.inl ⟨by rfl, ?_⟩) hS0 ?_
          rotate_left
          · intro w hSw; obtain ⟨z1, _⟩ := hSw; go_simp; try with_reducible rfl
          (try simp only [Act.put, List.setIfInBounds_toArray, List.set_cons_zero, List.set_cons_succ])
          refine wpAnyH_ready (rs := [1]) (by kernel_rfl) (by simp) (AllReadyH.cons (o := { dst := some 98, op := Op.call { callee := Callee.value (Operand.func 19), args := #[Operand.tmp 97], argTypes := #[25] }, type := 22, pos := _, after := #[{ on := 0, ground := Ground.data }], guard := none }) rfl (fun K hK => ?_) AllReadyH.nil)
          go_simp
          go_at_call 19
          refine (sbytes_any B g7 bo7 bn7 nl nl v' L HNL.out _ hsd).mono ?_
          rintro e wb ⟨Ab, cb, rfl, hcb, hownb, hdb⟩
          have hBb := hBd.trans (hdb.mono (by have := hBd.size; show B ≤ wr.heap.size; have : wr.drew.heap.size = wr.heap.size := rfl; omega))
          rw [HLG.out] at hownb
          have hS1 : RoundS A3 nl c3 lg wb := ⟨conv_string wb A3 nl c3 lg HLN.out (hrw.later hdb), trivial⟩
          have hcx := conv_string wb Ab nl cb lg HLN.out (Reads.of_own hownb)
          go_simp
          refine hK.out _ _ hS1 (fun hHeld => ?_)
          clear hK K hHeld
          (try simp only [Act.put, List.setIfInBounds_toArray, List.set_cons_zero, List.set_cons_succ])
          refine wpAnyH_ready (rs := [2]) (by kernel_rfl) (by simp) (AllReadyH.cons (o := { dst := some 99, op := Op.convert 22 9 (Operand.tmp 98), type := 9, pos := _, after := #[{ on := 1, ground := Ground.data }], guard := none }) rfl (fun K hK => ?_) AllReadyH.nil)
          go_simp
          refine hK.out _ _ hS1 (fun hHeld => ?_)
          clear hK K hHeld
          (try simp only [Act.put, List.setIfInBounds_toArray, List.set_cons_zero, List.set_cons_succ])
          refine wpAnyH_take (i := 5) (oi := { dst := some 102, op := Op.binOp BinOp.eql 9 (Operand.tmp 99) (Operand.tmp 101) 9, type := 4, pos := _, after := #[{ on := 2, ground := Ground.data }, { on := 4, ground := Ground.data }], guard := none }) (v := ?_) rfl (by kernel_rfl) (by kernel_rfl) (by kernel_rfl) (fun _ _ _ h => h) (Or.inl ⟨by rfl, ?_⟩) hS1 ?_
          rotate_left
          · intro w hSw; obtain ⟨z1, _⟩ := hSw; go_simp; try with_reducible rfl
          (try simp only [Act.put, List.setIfInBounds_toArray, List.set_cons_zero, List.set_cons_succ])
          refine wpAnyH_take (i := 6) (oi := { dst := some 103, op := Op.move (Operand.tmp 102), type := 4, pos := _, after := #[{ on := 5, ground := Ground.data }, { on := 1, ground := Ground.chain }], guard := none }) (v := ?_) rfl (by kernel_rfl) (by kernel_rfl) (by kernel_rfl) (fun _ _ _ h => h) (Or.inl ⟨by rfl, ?_⟩) hS1 ?_
          rotate_left
          · intro w hSw; obtain ⟨z1, _⟩ := hSw; go_simp; try with_reducible rfl
          (try simp only [Act.put, List.setIfInBounds_toArray, List.set_cons_zero, List.set_cons_succ])
          refine wpAnyH_ready (rs := [7]) (by kernel_rfl) (by simp) (AllReadyH.cons (o := { dst := some 104, op := Op.call { callee := Callee.value (Operand.func 20), args := #[], argTypes := #[] }, type := 4, pos := _, after := #[{ on := 6, ground := Ground.chain }, { on := 6, ground := Ground.guard }], guard := some (6, true) }) rfl (fun K hK => ?_) AllReadyH.nil)
          go_simp
          go_at_call 20
          refine (lives_any _).mono ?_
          rintro e wl ⟨rfl, hdl⟩
          have hBl := hBb.trans (hdl.mono (by have := hBb.size; omega))
          have hS2 : RoundS A3 nl c3 lg wl := ⟨conv_string wl A3 nl c3 lg HLN.out ((hrw.later hdb).later hdl), trivial⟩
          go_simp
          refine hK.out _ _ hS2 (fun hHeld => ?_)
          clear hK K hHeld
          (try simp only [Act.put, List.setIfInBounds_toArray, List.set_cons_zero, List.set_cons_succ])
          refine wpAnyH_take (i := 8) (oi := { dst := some 105, op := Op.pick (Operand.tmp 103) (Operand.tmp 104) (Operand.const (Value.bool false)), type := 4, pos := _, after := #[{ on := 6, ground := Ground.data }, { on := 7, ground := Ground.data }], guard := none }) (v := ?_) rfl (by kernel_rfl) (by kernel_rfl) (by kernel_rfl) (fun _ _ _ h => h) (Or.inl ⟨by rfl, ?_⟩) hS2 ?_
          rotate_left
          · intro w hSw; obtain ⟨z1, _⟩ := hSw; go_simp; try with_reducible rfl
          (try simp only [Act.put, List.setIfInBounds_toArray, List.set_cons_zero, List.set_cons_succ])
          refine wpAnyH_take (i := 9) (oi := { dst := some 2, op := Op.assign (Operand.tmp 105), type := 4, pos := _, after := #[{ on := 8, ground := Ground.data }, { on := 7, ground := Ground.chain }, { on := 0, ground := Ground.phase }, { on := 1, ground := Ground.phase }, { on := 2, ground := Ground.phase }, { on := 3, ground := Ground.phase }, { on := 4, ground := Ground.phase }, { on := 5, ground := Ground.phase }, { on := 6, ground := Ground.phase }, { on := 7, ground := Ground.phase }, { on := 8, ground := Ground.phase }], guard := none }) (v := ?_) rfl (by kernel_rfl) (by kernel_rfl) (by kernel_rfl) (fun _ _ _ h => h) (Or.inl ⟨by rfl, ?_⟩) hS2 ?_
          rotate_left
          · intro w hSw; obtain ⟨z1, _⟩ := hSw; go_simp; try with_reducible rfl
          (try simp only [Act.put, List.setIfInBounds_toArray, List.set_cons_zero, List.set_cons_succ])
          refine wpAnyH_done (by kernel_rfl) ?_ _
          go_wp2_with fail
          go_ret
          exact ⟨rfl, hb5.trans (hBl.mono (by omega))⟩
end Go.Proofs.Ytfanhbemmjcomaa
