/- The law's same: a store and a store of the reference with the same records. -/
import Derived.Test.YtfanhbemmjcomaaStRef9
namespace Go.Proofs.Ytfanhbemmjcomaa
open Go.RowKit
set_option linter.unusedVariables false

theorem sget_u (base g bo bn sy : Nat) (v : Value) (L : List S.R) (x : UInt64) (b : List UInt8) (k : Nat) (has : Bool) (hh : (S.get L x).isSome = has) (hb : (S.get L x).getD [] = b) (hk : b.length = k) (w : World) (h : StAt w base g bo bn v L sy) :
    Calls Try.prog 25 #[.pointer (some ⟨g, 0, none⟩), .int .u64 (x.toNat : Int)] w fun e w' => ∃ A c, e = .returned (.tuple #[.slice A k c, .bool has]) ∧ Reads w' w'.heap.size 1 A k (bv b) ∧ Below w.heap.size w w' := by
  cases hg : S.get L x with
  | none =>
    rw [hg] at hh hb
    obtain rfl : false = has := hh
    obtain rfl : [] = b := hb
    obtain rfl : 0 = k := hk
    refine (get_none base g bo bn sy v L x hg w h).mono ?_
    rintro e w' ⟨A, c, rfl, hd⟩
    exact ⟨A, c, rfl, ⟨rfl, fun h => absurd h (by omega)⟩, hd⟩
  | some d =>
    rw [hg] at hh hb
    obtain rfl : true = has := hh
    obtain rfl : d = b := hb
    refine (get_some base g bo bn sy k v L x d hg hk w h).mono ?_
    rintro e w' ⟨A, c, rfl, _, ho, hd⟩
    exact ⟨A, c, rfl, Reads.of_own ho, hd⟩
theorem slook_u (base g bo bn sy : Nat) (v : Value) (L : List S.R) (x k : UInt64) (has : Bool) (hh : (S.look L x).isSome = has) (hb : (S.look L x).getD 0 = k) (w : World) (h : StAt w base g bo bn v L sy) :
    Calls Try.prog 27 #[.pointer (some ⟨g, 0, none⟩), .int .u64 (x.toNat : Int)] w fun e w' => e = .returned (.tuple #[.int .u64 (k.toNat : Int), .bool has]) ∧ w = w' := by
  refine lookup_any base g bo bn sy v L x k has ?_ w h
  cases hg : S.look L x with
  | none => rw [hg] at hh hb; obtain rfl : false = has := hh; obtain rfl : 0 = k := hb; rfl
  | some j => rw [hg] at hh hb; obtain rfl : true = has := hh; obtain rfl : j = k := hb; rfl
/-- The box's cells. -/
def SameS (g : Nat) (A : Option Addr) (n cap : Nat) (sc : Int) (W : World) : Prop :=
  W.cell? ⟨g, 0, none⟩ = some (.slice A n cap) ∧ W.cell? ⟨g, 1, none⟩ = some (.int .i64 sc)
theorem sameS {g : Nat} {A : Option Addr} {n cap : Nat} {sc : Int} {W W' : World} {B : Nat} (hb : Below B W W') (hB : B = W.heap.size) (h : SameS g A n cap sc W) : SameS g A n cap sc W' := by
  subst hB
  exact ⟨(hb.cell (cell_lt h.1)).trans h.1, (hb.cell (cell_lt h.2)).trans h.2⟩

set_option maxRecDepth 10000 in
set_option maxHeartbeats 4000000 in
theorem same_any (base g bo bn sy : Nat) (v : Value) (L : List S.R) (F : Nat → Prop) (A : Option Addr) (n cap sc : Nat) (hsc : sc ≤ n) (hsy : (S.log (L.take sc)).length = sy) (hn2 : n ≤ 200) (hcap : n ≤ cap) (w : World) (hs : StAt w base g bo bn v L sy) (h : RefAt w F A n L) :
    Calls Try.prog 24 #[.pointer (some ⟨g, 0, none⟩), .agg #[.slice A n cap, .int .i64 (sc : Int)]] w fun e w' => e = .returned (.bool true) ∧ Below w.heap.size w w' := by
  obtain ⟨w1, hw1⟩ : ∃ x, w.alloc (.cells #[.slice A n cap, .int .i64 (sc : Int)] 43) = x := ⟨_, rfl⟩
  have d1 : Below w.heap.size w w1 := by rw [← hw1]; exact (Below.refl _ _).alloc (Nat.le_refl _) _
  have htw := Two.new w 43 (.slice A n cap) (.int .i64 (sc : Int))
  rw [hw1] at htw
  have hs1 := hs.later d1
  have h1 := h.later d1
  obtain ⟨m, hm⟩ : ∃ m, (S.log L).length = m := ⟨_, rfl⟩
  obtain ⟨lg, hlg⟩ : ∃ l, S.log L = l := ⟨_, rfl⟩
  have HLG := Lib.hid (show lg.length = m by rw [← hlg]; exact hm)
  have HSB := Lib.hid (fun W h => sbytes_any base g bo bn sy m v L hm W h)
  have HLO := Lib.hid (fun W h => log_any F A n cap m L hn2 hcap hm W h)
  have HLP := Lib.hid (fun W h => log_any F A sc cap sy (L.take sc) (by omega) (by omega) hsy W h)
  have hml := hs.len
  rw [hm] at hml
  simp only [hlg] at HSB HLO
  have y1 : (0 : Int) ≤ (sc : Int) := by omega
  have y2 : (sc : Int) ≤ (cap : Int) := by omega
  have y3 : sc ≤ cap := by omega
  clear hm hlg hsy
  go_enter Try.func24, Try.ntmps24
  go_wp2_with fail
  try rw [hw1]
  clear hw1
  have s0 : SameS w.heap.size A n cap (sc : Int) w1 := ⟨htw.cell0, htw.cell1⟩
  have hB0 : Below w1.heap.size w1 w1.drew := Below.drew (Below.refl w1.heap.size w1)
  have hS0 := sameS hB0 rfl s0
  -- REGION
  refine wp_region_held_drew (S := SameS w.heap.size A n cap (sc : Int)) (by kernel_rfl) hS0 (fun hHeld => ?_)
  clear hHeld
  (try simp only [Act.put, List.setIfInBounds_toArray, List.set_cons_zero, List.set_cons_succ])
  refine wpAnyH_take (i := 0) (oi := { dst := some 15, op := Op.move (Operand.tmp 0), type := 25, pos := _, after := #[], guard := none }) (v := ?_) rfl (by kernel_rfl) (by kernel_rfl) (by kernel_rfl) (fun _ _ _ h => h) (Or.inl ⟨by rfl, ?_⟩) hS0 ?_
  rotate_left
  · intro w hSw; obtain ⟨z1, z2⟩ := hSw; go_simp; try with_reducible rfl
  (try simp only [Act.put, List.setIfInBounds_toArray, List.set_cons_zero, List.set_cons_succ])
  refine wpAnyH_take (i := 3) (oi := { dst := some 18, op := Op.fieldAddr 43 (Operand.tmp 3) 0, type := 0, pos := _, after := #[], guard := none }) (v := ?_) rfl (by kernel_rfl) (by kernel_rfl) (by kernel_rfl) (fun _ _ _ h => h) (Or.inl ⟨by rfl, ?_⟩) hS0 ?_
  rotate_left
  · intro w hSw; obtain ⟨z1, z2⟩ := hSw; go_simp; try with_reducible rfl
  (try simp only [Act.put, List.setIfInBounds_toArray, List.set_cons_zero, List.set_cons_succ])
  refine wpAnyH_take (i := 4) (oi := { dst := some 19, op := Op.load 41 (Operand.tmp 18), type := 41, pos := _, after := #[{ on := 3, ground := Ground.data }], guard := none }) (v := ?_) rfl (by kernel_rfl) (by kernel_rfl) (by kernel_rfl) (fun _ _ _ h => h) (Or.inl ⟨by rfl, ?_⟩) hS0 ?_
  rotate_left
  · intro w hSw; obtain ⟨z1, z2⟩ := hSw; go_simp; try with_reducible rfl
  (try simp only [Act.put, List.setIfInBounds_toArray, List.set_cons_zero, List.set_cons_succ])
  refine wpAnyH_ready (rs := [1]) (by kernel_rfl) (by simp) (AllReadyH.cons (o := { dst := some 16, op := Op.call { callee := Callee.value (Operand.func 19), args := #[Operand.tmp 15], argTypes := #[25] }, type := 22, pos := _, after := #[{ on := 0, ground := Ground.data }], guard := none }) rfl (fun K hK => ?_) AllReadyH.nil)
  go_simp
  go_at_call 19
  refine (HSB.out _ (hs1.later hB0)).mono ?_
  rintro e w4 ⟨A4, c4, rfl, _, own4, d4⟩
  have B4 := blater hB0 (Nat.le_refl _) d4
  have S4 := sameS B4 rfl s0
  have rd4 := Reads.of_own own4
  have cv4 := conv_string w4 A4 m c4 lg HLG.out rd4
  go_simp
  refine hK.out _ _ S4 (fun hHeld => ?_)
  clear hK K hHeld
  (try simp only [Act.put, List.setIfInBounds_toArray, List.set_cons_zero, List.set_cons_succ])
  refine wpAnyH_ready (rs := [2, 5]) (by kernel_rfl) (by simp) (AllReadyH.cons (o := { dst := some 17, op := Op.convert 22 9 (Operand.tmp 16), type := 9, pos := _, after := #[{ on := 1, ground := Ground.data }], guard := none }) rfl (fun K hK => ?_) (AllReadyH.cons (o := { dst := some 20, op := Op.call { callee := Callee.value (Operand.func 44), args := #[Operand.tmp 19], argTypes := #[41] }, type := 22, pos := _, after := #[{ on := 4, ground := Ground.data }, { on := 1, ground := Ground.chain }], guard := none }) rfl (fun K hK => ?_) AllReadyH.nil))
  · go_simp
    refine hK.out _ _ S4 (fun hHeld => ?_)
    clear hK K hHeld
    (try simp only [Act.put, List.setIfInBounds_toArray, List.set_cons_zero, List.set_cons_succ])
    refine wpAnyH_ready (rs := [5]) (by kernel_rfl) (by simp) (AllReadyH.cons (o := { dst := some 20, op := Op.call { callee := Callee.value (Operand.func 44), args := #[Operand.tmp 19], argTypes := #[41] }, type := 22, pos := _, after := #[{ on := 4, ground := Ground.data }, { on := 1, ground := Ground.chain }], guard := none }) rfl (fun K hK => ?_) AllReadyH.nil)
    go_simp
    go_at_call 44
    refine (HLO.out _ (h1.later B4)).mono ?_
    rintro e w5 ⟨A5, c5, rfl, _, own5, d5⟩
    have B5 := blater B4 (Nat.le_refl _) d5
    have S5 := sameS B5 rfl s0
    have cv4 := conv_string w5 A4 m c4 lg HLG.out (rd4.later d5)
    have cv5 := conv_string w5 A5 m c5 lg HLG.out (Reads.of_own own5)
    go_simp
    refine hK.out _ _ S5 (fun hHeld => ?_)
    clear hK K hHeld
    (try simp only [Act.put, List.setIfInBounds_toArray, List.set_cons_zero, List.set_cons_succ])
    refine wpAnyH_ready (rs := [6]) (by kernel_rfl) (by simp) (AllReadyH.cons (o := { dst := some 21, op := Op.convert 22 9 (Operand.tmp 20), type := 9, pos := _, after := #[{ on := 5, ground := Ground.data }], guard := none }) rfl (fun K hK => ?_) AllReadyH.nil)
    go_simp
    refine hK.out _ _ S5 (fun hHeld => ?_)
    clear hK K hHeld
    (try simp only [Act.put, List.setIfInBounds_toArray, List.set_cons_zero, List.set_cons_succ])
    clear cv4 cv5
    refine wpAnyH_take (i := 7) (oi := { dst := some 22, op := Op.binOp BinOp.neq 9 (Operand.tmp 17) (Operand.tmp 21) 9, type := 4, pos := _, after := #[{ on := 2, ground := Ground.data }, { on := 6, ground := Ground.data }], guard := none }) (v := ?_) rfl (by kernel_rfl) (by kernel_rfl) (by kernel_rfl) (fun _ _ _ h => h) (Or.inl ⟨by rfl, ?_⟩) S5 ?_
    rotate_left
    · intro w hSw; obtain ⟨z1, z2⟩ := hSw; go_simp; try with_reducible rfl
    (try simp only [Act.put, List.setIfInBounds_toArray, List.set_cons_zero, List.set_cons_succ])
    refine wpAnyH_take (i := 8) (oi := { dst := some 23, op := Op.move (Operand.tmp 22), type := 4, pos := _, after := #[{ on := 7, ground := Ground.data }, { on := 5, ground := Ground.chain }], guard := none }) (v := ?_) rfl (by kernel_rfl) (by kernel_rfl) (by kernel_rfl) (fun _ _ _ h => h) (Or.inl ⟨by rfl, ?_⟩) S5 ?_
    rotate_left
    · intro w hSw; obtain ⟨z1, z2⟩ := hSw; go_simp; try with_reducible rfl
    (try simp only [Act.put, List.setIfInBounds_toArray, List.set_cons_zero, List.set_cons_succ])
    refine wpAnyH_take (i := 9) (oi := { dst := some 24, op := Op.move (Operand.tmp 0), type := 25, pos := _, after := #[{ on := 8, ground := Ground.guard }], guard := some (8, false) }) (v := ?_) rfl (by kernel_rfl) (by kernel_rfl) (by kernel_rfl) (fun _ _ _ h => h) (Or.inl ⟨by rfl, ?_⟩) S5 ?_
    rotate_left
    · intro w hSw; obtain ⟨z1, z2⟩ := hSw; go_simp; try with_reducible rfl
    (try simp only [Act.put, List.setIfInBounds_toArray, List.set_cons_zero, List.set_cons_succ])
    refine wpAnyH_take (i := 11) (oi := { dst := some 26, op := Op.fieldAddr 43 (Operand.tmp 3) 0, type := 0, pos := _, after := #[{ on := 8, ground := Ground.guard }], guard := some (8, false) }) (v := ?_) rfl (by kernel_rfl) (by kernel_rfl) (by kernel_rfl) (fun _ _ _ h => h) (Or.inl ⟨by rfl, ?_⟩) S5 ?_
    rotate_left
    · intro w hSw; obtain ⟨z1, z2⟩ := hSw; go_simp; try with_reducible rfl
    (try simp only [Act.put, List.setIfInBounds_toArray, List.set_cons_zero, List.set_cons_succ])
    refine wpAnyH_take (i := 12) (oi := { dst := some 27, op := Op.load 41 (Operand.tmp 26), type := 41, pos := _, after := #[{ on := 11, ground := Ground.data }, { on := 8, ground := Ground.guard }], guard := some (8, false) }) (v := ?_) rfl (by kernel_rfl) (by kernel_rfl) (by kernel_rfl) (fun _ _ _ h => h) (Or.inl ⟨by rfl, ?_⟩) S5 ?_
    rotate_left
    · intro w hSw; obtain ⟨z1, z2⟩ := hSw; go_simp; try with_reducible rfl
    (try simp only [Act.put, List.setIfInBounds_toArray, List.set_cons_zero, List.set_cons_succ])
    refine wpAnyH_take (i := 13) (oi := { dst := some 28, op := Op.fieldAddr 43 (Operand.tmp 3) 1, type := 0, pos := _, after := #[{ on := 8, ground := Ground.guard }], guard := some (8, false) }) (v := ?_) rfl (by kernel_rfl) (by kernel_rfl) (by kernel_rfl) (fun _ _ _ h => h) (Or.inl ⟨by rfl, ?_⟩) S5 ?_
    rotate_left
    · intro w hSw; obtain ⟨z1, z2⟩ := hSw; go_simp; try with_reducible rfl
    (try simp only [Act.put, List.setIfInBounds_toArray, List.set_cons_zero, List.set_cons_succ])
    refine wpAnyH_take (i := 14) (oi := { dst := some 29, op := Op.load 3 (Operand.tmp 28), type := 3, pos := _, after := #[{ on := 13, ground := Ground.data }, { on := 8, ground := Ground.guard }], guard := some (8, false) }) (v := ?_) rfl (by kernel_rfl) (by kernel_rfl) (by kernel_rfl) (fun _ _ _ h => h) (Or.inl ⟨by rfl, ?_⟩) S5 ?_
    rotate_left
    · intro w hSw; obtain ⟨z1, z2⟩ := hSw; go_simp; try with_reducible rfl
    (try simp only [Act.put, List.setIfInBounds_toArray, List.set_cons_zero, List.set_cons_succ])
    refine wpAnyH_take (i := 15) (oi := { dst := some 30, op := Op.slice 41 (Operand.tmp 27) none (some (Operand.tmp 29)) none, type := 41, pos := _, after := #[{ on := 12, ground := Ground.data }, { on := 14, ground := Ground.data }, { on := 8, ground := Ground.guard }], guard := some (8, false) }) (v := ?_) rfl (by kernel_rfl) (by kernel_rfl) (by kernel_rfl) (fun _ _ _ h => h) (Or.inl ⟨by rfl, ?_⟩) S5 ?_
    rotate_left
    · intro w hSw; obtain ⟨z1, z2⟩ := hSw; go_simp; try with_reducible rfl
    (try simp only [Act.put, List.setIfInBounds_toArray, List.set_cons_zero, List.set_cons_succ])
    refine wpAnyH_ready (rs := [10]) (by kernel_rfl) (by simp) (AllReadyH.cons (o := { dst := some 25, op := Op.call { callee := Callee.value (Operand.func 29), args := #[Operand.tmp 24], argTypes := #[25] }, type := 3, pos := _, after := #[{ on := 9, ground := Ground.data }, { on := 8, ground := Ground.chain }, { on := 8, ground := Ground.guard }], guard := some (8, false) }) rfl (fun K hK => ?_) AllReadyH.nil)
    go_simp
    go_at_call 29
    refine (synced_any base g bo bn sy v L _ (hs1.later B5)).mono ?_
    rintro e wz ⟨rfl, rfl⟩
    go_simp
    refine hK.out _ _ S5 (fun hHeld => ?_)
    clear hK K hHeld
    (try simp only [Act.put, List.setIfInBounds_toArray, List.set_cons_zero, List.set_cons_succ])
    refine wpAnyH_ready (rs := [16]) (by kernel_rfl) (by simp) (AllReadyH.cons (o := { dst := some 31, op := Op.call { callee := Callee.value (Operand.func 44), args := #[Operand.tmp 30], argTypes := #[41] }, type := 22, pos := _, after := #[{ on := 15, ground := Ground.data }, { on := 10, ground := Ground.chain }, { on := 8, ground := Ground.guard }], guard := some (8, false) }) rfl (fun K hK => ?_) AllReadyH.nil)
    go_simp
    go_at_call 44
    refine (HLP.out _ ((h1.later B5).take hsc)).mono ?_
    rintro e w6 ⟨A6, c6, rfl, _, own6, d6⟩
    have B6 := blater B5 (Nat.le_refl _) d6
    have S6 := sameS B6 rfl s0
    go_simp
    refine hK.out _ _ S6 (fun hHeld => ?_)
    clear hK K hHeld
    (try simp only [Act.put, List.setIfInBounds_toArray, List.set_cons_zero, List.set_cons_succ])
    refine wpAnyH_take (i := 17) (oi := { dst := some 32, op := Op.call { callee := Callee.builtin Builtin.len, args := #[Operand.tmp 31], argTypes := #[22] }, type := 3, pos := _, after := #[{ on := 16, ground := Ground.data }, { on := 8, ground := Ground.guard }], guard := some (8, false) }) (v := ?_) rfl (by kernel_rfl) (by kernel_rfl) (by kernel_rfl) (fun _ _ _ h => h) (Or.inl ⟨by rfl, ?_⟩) S6 ?_
    rotate_left
    · intro w hSw; obtain ⟨z1, z2⟩ := hSw; go_simp; try with_reducible rfl
    (try simp only [Act.put, List.setIfInBounds_toArray, List.set_cons_zero, List.set_cons_succ])
    refine wpAnyH_take (i := 18) (oi := { dst := some 33, op := Op.binOp BinOp.neq 3 (Operand.tmp 25) (Operand.tmp 32) 3, type := 4, pos := _, after := #[{ on := 10, ground := Ground.data }, { on := 17, ground := Ground.data }, { on := 8, ground := Ground.guard }], guard := some (8, false) }) (v := ?_) rfl (by kernel_rfl) (by kernel_rfl) (by kernel_rfl) (fun _ _ _ h => h) (Or.inl ⟨by rfl, ?_⟩) S6 ?_
    rotate_left
    · intro w hSw; obtain ⟨z1, z2⟩ := hSw; go_simp; try with_reducible rfl
    (try simp only [Act.put, List.setIfInBounds_toArray, List.set_cons_zero, List.set_cons_succ])
    refine wpAnyH_take (i := 19) (oi := { dst := some 34, op := Op.pick (Operand.tmp 23) (Operand.const (Value.bool true)) (Operand.tmp 33), type := 4, pos := _, after := #[{ on := 8, ground := Ground.data }, { on := 18, ground := Ground.data }], guard := none }) (v := ?_) rfl (by kernel_rfl) (by kernel_rfl) (by kernel_rfl) (fun _ _ _ h => h) (Or.inl ⟨by rfl, ?_⟩) S6 ?_
    rotate_left
    · intro w hSw; obtain ⟨z1, z2⟩ := hSw; go_simp; try with_reducible rfl
    (try simp only [Act.put, List.setIfInBounds_toArray, List.set_cons_zero, List.set_cons_succ])
    refine wpAnyH_done (by kernel_rfl) ?_ _
    go_wp2_with fail
    go_loopw [5] (fun ix wr => ∃ i : Nat, i ≤ 9 ∧ ix = .int .i64 (i : Int) ∧ Below w1.heap.size w1 wr) (fun ix _ => 9 - (intOf ix).toNat)
    case atStart => exact ⟨0, by omega, rfl, B6⟩
    case round =>
      obtain ⟨i, hi, rfl, hB⟩ := hrel
      clear rd4 own4 own5 own6 d4 d5 d6 B4 B5 B6 S4 S5 S6 hB0 hS0 s0
      by_cases hlt : i < 9
      · have hbl := S.bytes_len i
        have hql := S.sq_le (n := i) (by omega)
        obtain ⟨mi, hmi⟩ : ∃ mi, i * i = mi := ⟨_, rfl⟩
        have hby := fun W => obytes_any i (by omega) W
        simp only [hmi] at hby hbl hql
        have HBL := Lib.hid hbl
        obtain ⟨x, hx⟩ : ∃ x, S.key (S.bytes i) = x := ⟨_, rfl⟩
        have HX := Lib.hid hx
        obtain ⟨has, hh⟩ : ∃ y, (S.get L x).isSome = y := ⟨_, rfl⟩
        obtain ⟨ob, hob⟩ : ∃ y, (S.get L x).getD [] = y := ⟨_, rfl⟩
        obtain ⟨kb, hkb⟩ : ∃ y, ob.length = y := ⟨_, rfl⟩
        obtain ⟨y, hy⟩ : ∃ y : UInt64, y.toNat = i := ⟨UInt64.ofNat i, UInt64.toNat_ofNat_of_lt' (by show _ < 18446744073709551616; omega)⟩
        obtain ⟨bd, hbd⟩ : ∃ z, (S.look L y).isSome = z := ⟨_, rfl⟩
        obtain ⟨j, hj⟩ : ∃ z, (S.look L y).getD 0 = z := ⟨_, rfl⟩
        have hsl := fun W h => slook_u base g bo bn sy v L y j bd hbd hj W h
        have hrl := fun W h => refLook_any F A n cap L (sc : Int) y j bd hbd hj hn2 hcap W h
        simp only [hy] at hsl hrl
        have HSG := Lib.hid (fun W h => sget_u base g bo bn sy v L x ob kb has hh hob hkb W h)
        have HRG := Lib.hid (fun W h => refGet_any F A n cap L (sc : Int) x ob kb has hh hob hkb hn2 hcap W h)
        have HSL := Lib.hid hsl
        have HRL := Lib.hid hrl
        have HKB := Lib.hid hkb
        have hi1 : (0 : Int) ≤ (i : Int) := by omega
        have hi2 : (i : Int) < 9 := by omega
        have hiw : IntKind.u64.wrap (i : Int) = (i : Int) := by rw [IntKind.wrap_u64]; omega
        clear hbl hmi hx hh hob hkb hbd hj hsl hrl hy
        go_wp2_with fail
        refine (hby _).mono ?_
        rintro e x1 ⟨A1, c1, rfl, _, own1, e1⟩
        have b1 := blater hB (Nat.le_refl _) e1
        go_wp2_with fail
        refine (key_any A1 mi c1 (S.bytes i) x HX.out HBL.out (by omega) _ (Reads.of_own own1)).mono ?_
        rintro e x2 ⟨rfl, e2⟩
        have b2 := blater b1 (Nat.le_refl _) e2
        clear own1 hby
        go_wp2_with fail
        refine (HSG.out _ (hs1.later b2)).mono ?_
        rintro e x3 ⟨A3, c3, rfl, r3, e3⟩
        have b3 := blater b2 (Nat.le_refl _) e3
        have t0 := (htw.below b3).cell0
        have t1 := (htw.below b3).cell1
        go_wp2_with fail
        refine (HRG.out _ (h1.later b3)).mono ?_
        rintro e x4 ⟨A7, c7, rfl, r7, e4⟩
        have b4 := blater b3 (Nat.le_refl _) e4
        have cva := conv_string x4 A3 kb c3 ob HKB.out (r3.later e4)
        have cvb := conv_string x4 A7 kb c7 ob HKB.out r7
        clear t0 t1
        go_wp2_with fail
        refine (HSL.out _ (hs1.later b4)).mono ?_
        rintro e xz ⟨rfl, rfl⟩
        have t0 := (htw.below b4).cell0
        have t1 := (htw.below b4).cell1
        clear cva cvb
        go_wp2_with fail
        refine (HRL.out _ (h1.later b4)).mono ?_
        rintro e x5 ⟨rfl, e5⟩
        have b5 := blater b4 (Nat.le_refl _) e5
        clear t0 t1
        go_wp2_with fail
        go_roundw
        case rel => exact ⟨i + 1, by omega, by go_num, b5⟩
        case measure => simp [intOf]; omega
      · have hi2 : (9 : Int) ≤ (i : Int) := by omega
        have bw := blater d1 (Nat.le_refl _) hB
        go_wp2_with fail
        go_ret
        exact ⟨rfl, bw⟩
  · go_simp
    go_at_call 44
    refine (HLO.out _ (h1.later B4)).mono ?_
    rintro e w5 ⟨A5, c5, rfl, _, own5, d5⟩
    have B5 := blater B4 (Nat.le_refl _) d5
    have S5 := sameS B5 rfl s0
    have cv4 := conv_string w5 A4 m c4 lg HLG.out (rd4.later d5)
    have cv5 := conv_string w5 A5 m c5 lg HLG.out (Reads.of_own own5)
    go_simp
    refine hK.out _ _ S5 (fun hHeld => ?_)
    clear hK K hHeld
    (try simp only [Act.put, List.setIfInBounds_toArray, List.set_cons_zero, List.set_cons_succ])
    refine wpAnyH_ready (rs := [2, 6]) (by kernel_rfl) (by simp) (AllReadyH.cons (o := { dst := some 17, op := Op.convert 22 9 (Operand.tmp 16), type := 9, pos := _, after := #[{ on := 1, ground := Ground.data }], guard := none }) rfl (fun K hK => ?_) (AllReadyH.cons (o := { dst := some 21, op := Op.convert 22 9 (Operand.tmp 20), type := 9, pos := _, after := #[{ on := 5, ground := Ground.data }], guard := none }) rfl (fun K hK => ?_) AllReadyH.nil))
    · go_simp
      refine hK.out _ _ S5 (fun hHeld => ?_)
      clear hK K hHeld
      (try simp only [Act.put, List.setIfInBounds_toArray, List.set_cons_zero, List.set_cons_succ])
      refine wpAnyH_ready (rs := [6]) (by kernel_rfl) (by simp) (AllReadyH.cons (o := { dst := some 21, op := Op.convert 22 9 (Operand.tmp 20), type := 9, pos := _, after := #[{ on := 5, ground := Ground.data }], guard := none }) rfl (fun K hK => ?_) AllReadyH.nil)
      go_simp
      refine hK.out _ _ S5 (fun hHeld => ?_)
      clear hK K hHeld
      (try simp only [Act.put, List.setIfInBounds_toArray, List.set_cons_zero, List.set_cons_succ])
      clear cv4 cv5
      refine wpAnyH_take (i := 7) (oi := { dst := some 22, op := Op.binOp BinOp.neq 9 (Operand.tmp 17) (Operand.tmp 21) 9, type := 4, pos := _, after := #[{ on := 2, ground := Ground.data }, { on := 6, ground := Ground.data }], guard := none }) (v := ?_) rfl (by kernel_rfl) (by kernel_rfl) (by kernel_rfl) (fun _ _ _ h => h) (Or.inl ⟨by rfl, ?_⟩) S5 ?_
      rotate_left
      · intro w hSw; obtain ⟨z1, z2⟩ := hSw; go_simp; try with_reducible rfl
      (try simp only [Act.put, List.setIfInBounds_toArray, List.set_cons_zero, List.set_cons_succ])
      refine wpAnyH_take (i := 8) (oi := { dst := some 23, op := Op.move (Operand.tmp 22), type := 4, pos := _, after := #[{ on := 7, ground := Ground.data }, { on := 5, ground := Ground.chain }], guard := none }) (v := ?_) rfl (by kernel_rfl) (by kernel_rfl) (by kernel_rfl) (fun _ _ _ h => h) (Or.inl ⟨by rfl, ?_⟩) S5 ?_
      rotate_left
      · intro w hSw; obtain ⟨z1, z2⟩ := hSw; go_simp; try with_reducible rfl
      (try simp only [Act.put, List.setIfInBounds_toArray, List.set_cons_zero, List.set_cons_succ])
      refine wpAnyH_take (i := 9) (oi := { dst := some 24, op := Op.move (Operand.tmp 0), type := 25, pos := _, after := #[{ on := 8, ground := Ground.guard }], guard := some (8, false) }) (v := ?_) rfl (by kernel_rfl) (by kernel_rfl) (by kernel_rfl) (fun _ _ _ h => h) (Or.inl ⟨by rfl, ?_⟩) S5 ?_
      rotate_left
      · intro w hSw; obtain ⟨z1, z2⟩ := hSw; go_simp; try with_reducible rfl
      (try simp only [Act.put, List.setIfInBounds_toArray, List.set_cons_zero, List.set_cons_succ])
      refine wpAnyH_take (i := 11) (oi := { dst := some 26, op := Op.fieldAddr 43 (Operand.tmp 3) 0, type := 0, pos := _, after := #[{ on := 8, ground := Ground.guard }], guard := some (8, false) }) (v := ?_) rfl (by kernel_rfl) (by kernel_rfl) (by kernel_rfl) (fun _ _ _ h => h) (Or.inl ⟨by rfl, ?_⟩) S5 ?_
      rotate_left
      · intro w hSw; obtain ⟨z1, z2⟩ := hSw; go_simp; try with_reducible rfl
      (try simp only [Act.put, List.setIfInBounds_toArray, List.set_cons_zero, List.set_cons_succ])
      refine wpAnyH_take (i := 12) (oi := { dst := some 27, op := Op.load 41 (Operand.tmp 26), type := 41, pos := _, after := #[{ on := 11, ground := Ground.data }, { on := 8, ground := Ground.guard }], guard := some (8, false) }) (v := ?_) rfl (by kernel_rfl) (by kernel_rfl) (by kernel_rfl) (fun _ _ _ h => h) (Or.inl ⟨by rfl, ?_⟩) S5 ?_
      rotate_left
      · intro w hSw; obtain ⟨z1, z2⟩ := hSw; go_simp; try with_reducible rfl
      (try simp only [Act.put, List.setIfInBounds_toArray, List.set_cons_zero, List.set_cons_succ])
      refine wpAnyH_take (i := 13) (oi := { dst := some 28, op := Op.fieldAddr 43 (Operand.tmp 3) 1, type := 0, pos := _, after := #[{ on := 8, ground := Ground.guard }], guard := some (8, false) }) (v := ?_) rfl (by kernel_rfl) (by kernel_rfl) (by kernel_rfl) (fun _ _ _ h => h) (Or.inl ⟨by rfl, ?_⟩) S5 ?_
      rotate_left
      · intro w hSw; obtain ⟨z1, z2⟩ := hSw; go_simp; try with_reducible rfl
      (try simp only [Act.put, List.setIfInBounds_toArray, List.set_cons_zero, List.set_cons_succ])
      refine wpAnyH_take (i := 14) (oi := { dst := some 29, op := Op.load 3 (Operand.tmp 28), type := 3, pos := _, after := #[{ on := 13, ground := Ground.data }, { on := 8, ground := Ground.guard }], guard := some (8, false) }) (v := ?_) rfl (by kernel_rfl) (by kernel_rfl) (by kernel_rfl) (fun _ _ _ h => h) (Or.inl ⟨by rfl, ?_⟩) S5 ?_
      rotate_left
      · intro w hSw; obtain ⟨z1, z2⟩ := hSw; go_simp; try with_reducible rfl
      (try simp only [Act.put, List.setIfInBounds_toArray, List.set_cons_zero, List.set_cons_succ])
      refine wpAnyH_take (i := 15) (oi := { dst := some 30, op := Op.slice 41 (Operand.tmp 27) none (some (Operand.tmp 29)) none, type := 41, pos := _, after := #[{ on := 12, ground := Ground.data }, { on := 14, ground := Ground.data }, { on := 8, ground := Ground.guard }], guard := some (8, false) }) (v := ?_) rfl (by kernel_rfl) (by kernel_rfl) (by kernel_rfl) (fun _ _ _ h => h) (Or.inl ⟨by rfl, ?_⟩) S5 ?_
      rotate_left
      · intro w hSw; obtain ⟨z1, z2⟩ := hSw; go_simp; try with_reducible rfl
      (try simp only [Act.put, List.setIfInBounds_toArray, List.set_cons_zero, List.set_cons_succ])
      refine wpAnyH_ready (rs := [10]) (by kernel_rfl) (by simp) (AllReadyH.cons (o := { dst := some 25, op := Op.call { callee := Callee.value (Operand.func 29), args := #[Operand.tmp 24], argTypes := #[25] }, type := 3, pos := _, after := #[{ on := 9, ground := Ground.data }, { on := 8, ground := Ground.chain }, { on := 8, ground := Ground.guard }], guard := some (8, false) }) rfl (fun K hK => ?_) AllReadyH.nil)
      go_simp
      go_at_call 29
      refine (synced_any base g bo bn sy v L _ (hs1.later B5)).mono ?_
      rintro e wz ⟨rfl, rfl⟩
      go_simp
      refine hK.out _ _ S5 (fun hHeld => ?_)
      clear hK K hHeld
      (try simp only [Act.put, List.setIfInBounds_toArray, List.set_cons_zero, List.set_cons_succ])
      refine wpAnyH_ready (rs := [16]) (by kernel_rfl) (by simp) (AllReadyH.cons (o := { dst := some 31, op := Op.call { callee := Callee.value (Operand.func 44), args := #[Operand.tmp 30], argTypes := #[41] }, type := 22, pos := _, after := #[{ on := 15, ground := Ground.data }, { on := 10, ground := Ground.chain }, { on := 8, ground := Ground.guard }], guard := some (8, false) }) rfl (fun K hK => ?_) AllReadyH.nil)
      go_simp
      go_at_call 44
      refine (HLP.out _ ((h1.later B5).take hsc)).mono ?_
      rintro e w6 ⟨A6, c6, rfl, _, own6, d6⟩
      have B6 := blater B5 (Nat.le_refl _) d6
      have S6 := sameS B6 rfl s0
      go_simp
      refine hK.out _ _ S6 (fun hHeld => ?_)
      clear hK K hHeld
      (try simp only [Act.put, List.setIfInBounds_toArray, List.set_cons_zero, List.set_cons_succ])
      refine wpAnyH_take (i := 17) (oi := { dst := some 32, op := Op.call { callee := Callee.builtin Builtin.len, args := #[Operand.tmp 31], argTypes := #[22] }, type := 3, pos := _, after := #[{ on := 16, ground := Ground.data }, { on := 8, ground := Ground.guard }], guard := some (8, false) }) (v := ?_) rfl (by kernel_rfl) (by kernel_rfl) (by kernel_rfl) (fun _ _ _ h => h) (Or.inl ⟨by rfl, ?_⟩) S6 ?_
      rotate_left
      · intro w hSw; obtain ⟨z1, z2⟩ := hSw; go_simp; try with_reducible rfl
      (try simp only [Act.put, List.setIfInBounds_toArray, List.set_cons_zero, List.set_cons_succ])
      refine wpAnyH_take (i := 18) (oi := { dst := some 33, op := Op.binOp BinOp.neq 3 (Operand.tmp 25) (Operand.tmp 32) 3, type := 4, pos := _, after := #[{ on := 10, ground := Ground.data }, { on := 17, ground := Ground.data }, { on := 8, ground := Ground.guard }], guard := some (8, false) }) (v := ?_) rfl (by kernel_rfl) (by kernel_rfl) (by kernel_rfl) (fun _ _ _ h => h) (Or.inl ⟨by rfl, ?_⟩) S6 ?_
      rotate_left
      · intro w hSw; obtain ⟨z1, z2⟩ := hSw; go_simp; try with_reducible rfl
      (try simp only [Act.put, List.setIfInBounds_toArray, List.set_cons_zero, List.set_cons_succ])
      refine wpAnyH_take (i := 19) (oi := { dst := some 34, op := Op.pick (Operand.tmp 23) (Operand.const (Value.bool true)) (Operand.tmp 33), type := 4, pos := _, after := #[{ on := 8, ground := Ground.data }, { on := 18, ground := Ground.data }], guard := none }) (v := ?_) rfl (by kernel_rfl) (by kernel_rfl) (by kernel_rfl) (fun _ _ _ h => h) (Or.inl ⟨by rfl, ?_⟩) S6 ?_
      rotate_left
      · intro w hSw; obtain ⟨z1, z2⟩ := hSw; go_simp; try with_reducible rfl
      (try simp only [Act.put, List.setIfInBounds_toArray, List.set_cons_zero, List.set_cons_succ])
      refine wpAnyH_done (by kernel_rfl) ?_ _
      go_wp2_with fail
      go_loopw [5] (fun ix wr => ∃ i : Nat, i ≤ 9 ∧ ix = .int .i64 (i : Int) ∧ Below w1.heap.size w1 wr) (fun ix _ => 9 - (intOf ix).toNat)
      case atStart => exact ⟨0, by omega, rfl, B6⟩
      case round =>
        obtain ⟨i, hi, rfl, hB⟩ := hrel
        clear rd4 own4 own5 own6 d4 d5 d6 B4 B5 B6 S4 S5 S6 hB0 hS0 s0
        by_cases hlt : i < 9
        · have hbl := S.bytes_len i
          have hql := S.sq_le (n := i) (by omega)
          obtain ⟨mi, hmi⟩ : ∃ mi, i * i = mi := ⟨_, rfl⟩
          have hby := fun W => obytes_any i (by omega) W
          simp only [hmi] at hby hbl hql
          have HBL := Lib.hid hbl
          obtain ⟨x, hx⟩ : ∃ x, S.key (S.bytes i) = x := ⟨_, rfl⟩
          have HX := Lib.hid hx
          obtain ⟨has, hh⟩ : ∃ y, (S.get L x).isSome = y := ⟨_, rfl⟩
          obtain ⟨ob, hob⟩ : ∃ y, (S.get L x).getD [] = y := ⟨_, rfl⟩
          obtain ⟨kb, hkb⟩ : ∃ y, ob.length = y := ⟨_, rfl⟩
          obtain ⟨y, hy⟩ : ∃ y : UInt64, y.toNat = i := ⟨UInt64.ofNat i, UInt64.toNat_ofNat_of_lt' (by show _ < 18446744073709551616; omega)⟩
          obtain ⟨bd, hbd⟩ : ∃ z, (S.look L y).isSome = z := ⟨_, rfl⟩
          obtain ⟨j, hj⟩ : ∃ z, (S.look L y).getD 0 = z := ⟨_, rfl⟩
          have hsl := fun W h => slook_u base g bo bn sy v L y j bd hbd hj W h
          have hrl := fun W h => refLook_any F A n cap L (sc : Int) y j bd hbd hj hn2 hcap W h
          simp only [hy] at hsl hrl
          have HSG := Lib.hid (fun W h => sget_u base g bo bn sy v L x ob kb has hh hob hkb W h)
          have HRG := Lib.hid (fun W h => refGet_any F A n cap L (sc : Int) x ob kb has hh hob hkb hn2 hcap W h)
          have HSL := Lib.hid hsl
          have HRL := Lib.hid hrl
          have HKB := Lib.hid hkb
          have hi1 : (0 : Int) ≤ (i : Int) := by omega
          have hi2 : (i : Int) < 9 := by omega
          have hiw : IntKind.u64.wrap (i : Int) = (i : Int) := by rw [IntKind.wrap_u64]; omega
          clear hbl hmi hx hh hob hkb hbd hj hsl hrl hy
          go_wp2_with fail
          refine (hby _).mono ?_
          rintro e x1 ⟨A1, c1, rfl, _, own1, e1⟩
          have b1 := blater hB (Nat.le_refl _) e1
          go_wp2_with fail
          refine (key_any A1 mi c1 (S.bytes i) x HX.out HBL.out (by omega) _ (Reads.of_own own1)).mono ?_
          rintro e x2 ⟨rfl, e2⟩
          have b2 := blater b1 (Nat.le_refl _) e2
          clear own1 hby
          go_wp2_with fail
          refine (HSG.out _ (hs1.later b2)).mono ?_
          rintro e x3 ⟨A3, c3, rfl, r3, e3⟩
          have b3 := blater b2 (Nat.le_refl _) e3
          have t0 := (htw.below b3).cell0
          have t1 := (htw.below b3).cell1
          go_wp2_with fail
          refine (HRG.out _ (h1.later b3)).mono ?_
          rintro e x4 ⟨A7, c7, rfl, r7, e4⟩
          have b4 := blater b3 (Nat.le_refl _) e4
          have cva := conv_string x4 A3 kb c3 ob HKB.out (r3.later e4)
          have cvb := conv_string x4 A7 kb c7 ob HKB.out r7
          clear t0 t1
          go_wp2_with fail
          refine (HSL.out _ (hs1.later b4)).mono ?_
          rintro e xz ⟨rfl, rfl⟩
          have t0 := (htw.below b4).cell0
          have t1 := (htw.below b4).cell1
          clear cva cvb
          go_wp2_with fail
          refine (HRL.out _ (h1.later b4)).mono ?_
          rintro e x5 ⟨rfl, e5⟩
          have b5 := blater b4 (Nat.le_refl _) e5
          clear t0 t1
          go_wp2_with fail
          go_roundw
          case rel => exact ⟨i + 1, by omega, by go_num, b5⟩
          case measure => simp [intOf]; omega
        · have hi2 : (9 : Int) ≤ (i : Int) := by omega
          have bw := blater d1 (Nat.le_refl _) hB
          go_wp2_with fail
          go_ret
          exact ⟨rfl, bw⟩
    · go_simp
      refine hK.out _ _ S5 (fun hHeld => ?_)
      clear hK K hHeld
      (try simp only [Act.put, List.setIfInBounds_toArray, List.set_cons_zero, List.set_cons_succ])
      refine wpAnyH_ready (rs := [2]) (by kernel_rfl) (by simp) (AllReadyH.cons (o := { dst := some 17, op := Op.convert 22 9 (Operand.tmp 16), type := 9, pos := _, after := #[{ on := 1, ground := Ground.data }], guard := none }) rfl (fun K hK => ?_) AllReadyH.nil)
      go_simp
      refine hK.out _ _ S5 (fun hHeld => ?_)
      clear hK K hHeld
      (try simp only [Act.put, List.setIfInBounds_toArray, List.set_cons_zero, List.set_cons_succ])
      clear cv4 cv5
      refine wpAnyH_take (i := 7) (oi := { dst := some 22, op := Op.binOp BinOp.neq 9 (Operand.tmp 17) (Operand.tmp 21) 9, type := 4, pos := _, after := #[{ on := 2, ground := Ground.data }, { on := 6, ground := Ground.data }], guard := none }) (v := ?_) rfl (by kernel_rfl) (by kernel_rfl) (by kernel_rfl) (fun _ _ _ h => h) (Or.inl ⟨by rfl, ?_⟩) S5 ?_
      rotate_left
      · intro w hSw; obtain ⟨z1, z2⟩ := hSw; go_simp; try with_reducible rfl
      (try simp only [Act.put, List.setIfInBounds_toArray, List.set_cons_zero, List.set_cons_succ])
      refine wpAnyH_take (i := 8) (oi := { dst := some 23, op := Op.move (Operand.tmp 22), type := 4, pos := _, after := #[{ on := 7, ground := Ground.data }, { on := 5, ground := Ground.chain }], guard := none }) (v := ?_) rfl (by kernel_rfl) (by kernel_rfl) (by kernel_rfl) (fun _ _ _ h => h) (Or.inl ⟨by rfl, ?_⟩) S5 ?_
      rotate_left
      · intro w hSw; obtain ⟨z1, z2⟩ := hSw; go_simp; try with_reducible rfl
      (try simp only [Act.put, List.setIfInBounds_toArray, List.set_cons_zero, List.set_cons_succ])
      refine wpAnyH_take (i := 9) (oi := { dst := some 24, op := Op.move (Operand.tmp 0), type := 25, pos := _, after := #[{ on := 8, ground := Ground.guard }], guard := some (8, false) }) (v := ?_) rfl (by kernel_rfl) (by kernel_rfl) (by kernel_rfl) (fun _ _ _ h => h) (Or.inl ⟨by rfl, ?_⟩) S5 ?_
      rotate_left
      · intro w hSw; obtain ⟨z1, z2⟩ := hSw; go_simp; try with_reducible rfl
      (try simp only [Act.put, List.setIfInBounds_toArray, List.set_cons_zero, List.set_cons_succ])
      refine wpAnyH_take (i := 11) (oi := { dst := some 26, op := Op.fieldAddr 43 (Operand.tmp 3) 0, type := 0, pos := _, after := #[{ on := 8, ground := Ground.guard }], guard := some (8, false) }) (v := ?_) rfl (by kernel_rfl) (by kernel_rfl) (by kernel_rfl) (fun _ _ _ h => h) (Or.inl ⟨by rfl, ?_⟩) S5 ?_
      rotate_left
      · intro w hSw; obtain ⟨z1, z2⟩ := hSw; go_simp; try with_reducible rfl
      (try simp only [Act.put, List.setIfInBounds_toArray, List.set_cons_zero, List.set_cons_succ])
      refine wpAnyH_take (i := 12) (oi := { dst := some 27, op := Op.load 41 (Operand.tmp 26), type := 41, pos := _, after := #[{ on := 11, ground := Ground.data }, { on := 8, ground := Ground.guard }], guard := some (8, false) }) (v := ?_) rfl (by kernel_rfl) (by kernel_rfl) (by kernel_rfl) (fun _ _ _ h => h) (Or.inl ⟨by rfl, ?_⟩) S5 ?_
      rotate_left
      · intro w hSw; obtain ⟨z1, z2⟩ := hSw; go_simp; try with_reducible rfl
      (try simp only [Act.put, List.setIfInBounds_toArray, List.set_cons_zero, List.set_cons_succ])
      refine wpAnyH_take (i := 13) (oi := { dst := some 28, op := Op.fieldAddr 43 (Operand.tmp 3) 1, type := 0, pos := _, after := #[{ on := 8, ground := Ground.guard }], guard := some (8, false) }) (v := ?_) rfl (by kernel_rfl) (by kernel_rfl) (by kernel_rfl) (fun _ _ _ h => h) (Or.inl ⟨by rfl, ?_⟩) S5 ?_
      rotate_left
      · intro w hSw; obtain ⟨z1, z2⟩ := hSw; go_simp; try with_reducible rfl
      (try simp only [Act.put, List.setIfInBounds_toArray, List.set_cons_zero, List.set_cons_succ])
      refine wpAnyH_take (i := 14) (oi := { dst := some 29, op := Op.load 3 (Operand.tmp 28), type := 3, pos := _, after := #[{ on := 13, ground := Ground.data }, { on := 8, ground := Ground.guard }], guard := some (8, false) }) (v := ?_) rfl (by kernel_rfl) (by kernel_rfl) (by kernel_rfl) (fun _ _ _ h => h) (Or.inl ⟨by rfl, ?_⟩) S5 ?_
      rotate_left
      · intro w hSw; obtain ⟨z1, z2⟩ := hSw; go_simp; try with_reducible rfl
      (try simp only [Act.put, List.setIfInBounds_toArray, List.set_cons_zero, List.set_cons_succ])
      refine wpAnyH_take (i := 15) (oi := { dst := some 30, op := Op.slice 41 (Operand.tmp 27) none (some (Operand.tmp 29)) none, type := 41, pos := _, after := #[{ on := 12, ground := Ground.data }, { on := 14, ground := Ground.data }, { on := 8, ground := Ground.guard }], guard := some (8, false) }) (v := ?_) rfl (by kernel_rfl) (by kernel_rfl) (by kernel_rfl) (fun _ _ _ h => h) (Or.inl ⟨by rfl, ?_⟩) S5 ?_
      rotate_left
      · intro w hSw; obtain ⟨z1, z2⟩ := hSw; go_simp; try with_reducible rfl
      (try simp only [Act.put, List.setIfInBounds_toArray, List.set_cons_zero, List.set_cons_succ])
      refine wpAnyH_ready (rs := [10]) (by kernel_rfl) (by simp) (AllReadyH.cons (o := { dst := some 25, op := Op.call { callee := Callee.value (Operand.func 29), args := #[Operand.tmp 24], argTypes := #[25] }, type := 3, pos := _, after := #[{ on := 9, ground := Ground.data }, { on := 8, ground := Ground.chain }, { on := 8, ground := Ground.guard }], guard := some (8, false) }) rfl (fun K hK => ?_) AllReadyH.nil)
      go_simp
      go_at_call 29
      refine (synced_any base g bo bn sy v L _ (hs1.later B5)).mono ?_
      rintro e wz ⟨rfl, rfl⟩
      go_simp
      refine hK.out _ _ S5 (fun hHeld => ?_)
      clear hK K hHeld
      (try simp only [Act.put, List.setIfInBounds_toArray, List.set_cons_zero, List.set_cons_succ])
      refine wpAnyH_ready (rs := [16]) (by kernel_rfl) (by simp) (AllReadyH.cons (o := { dst := some 31, op := Op.call { callee := Callee.value (Operand.func 44), args := #[Operand.tmp 30], argTypes := #[41] }, type := 22, pos := _, after := #[{ on := 15, ground := Ground.data }, { on := 10, ground := Ground.chain }, { on := 8, ground := Ground.guard }], guard := some (8, false) }) rfl (fun K hK => ?_) AllReadyH.nil)
      go_simp
      go_at_call 44
      refine (HLP.out _ ((h1.later B5).take hsc)).mono ?_
      rintro e w6 ⟨A6, c6, rfl, _, own6, d6⟩
      have B6 := blater B5 (Nat.le_refl _) d6
      have S6 := sameS B6 rfl s0
      go_simp
      refine hK.out _ _ S6 (fun hHeld => ?_)
      clear hK K hHeld
      (try simp only [Act.put, List.setIfInBounds_toArray, List.set_cons_zero, List.set_cons_succ])
      refine wpAnyH_take (i := 17) (oi := { dst := some 32, op := Op.call { callee := Callee.builtin Builtin.len, args := #[Operand.tmp 31], argTypes := #[22] }, type := 3, pos := _, after := #[{ on := 16, ground := Ground.data }, { on := 8, ground := Ground.guard }], guard := some (8, false) }) (v := ?_) rfl (by kernel_rfl) (by kernel_rfl) (by kernel_rfl) (fun _ _ _ h => h) (Or.inl ⟨by rfl, ?_⟩) S6 ?_
      rotate_left
      · intro w hSw; obtain ⟨z1, z2⟩ := hSw; go_simp; try with_reducible rfl
      (try simp only [Act.put, List.setIfInBounds_toArray, List.set_cons_zero, List.set_cons_succ])
      refine wpAnyH_take (i := 18) (oi := { dst := some 33, op := Op.binOp BinOp.neq 3 (Operand.tmp 25) (Operand.tmp 32) 3, type := 4, pos := _, after := #[{ on := 10, ground := Ground.data }, { on := 17, ground := Ground.data }, { on := 8, ground := Ground.guard }], guard := some (8, false) }) (v := ?_) rfl (by kernel_rfl) (by kernel_rfl) (by kernel_rfl) (fun _ _ _ h => h) (Or.inl ⟨by rfl, ?_⟩) S6 ?_
      rotate_left
      · intro w hSw; obtain ⟨z1, z2⟩ := hSw; go_simp; try with_reducible rfl
      (try simp only [Act.put, List.setIfInBounds_toArray, List.set_cons_zero, List.set_cons_succ])
      refine wpAnyH_take (i := 19) (oi := { dst := some 34, op := Op.pick (Operand.tmp 23) (Operand.const (Value.bool true)) (Operand.tmp 33), type := 4, pos := _, after := #[{ on := 8, ground := Ground.data }, { on := 18, ground := Ground.data }], guard := none }) (v := ?_) rfl (by kernel_rfl) (by kernel_rfl) (by kernel_rfl) (fun _ _ _ h => h) (Or.inl ⟨by rfl, ?_⟩) S6 ?_
      rotate_left
      · intro w hSw; obtain ⟨z1, z2⟩ := hSw; go_simp; try with_reducible rfl
      (try simp only [Act.put, List.setIfInBounds_toArray, List.set_cons_zero, List.set_cons_succ])
      refine wpAnyH_done (by kernel_rfl) ?_ _
      go_wp2_with fail
      go_loopw [5] (fun ix wr => ∃ i : Nat, i ≤ 9 ∧ ix = .int .i64 (i : Int) ∧ Below w1.heap.size w1 wr) (fun ix _ => 9 - (intOf ix).toNat)
      case atStart => exact ⟨0, by omega, rfl, B6⟩
      case round =>
        obtain ⟨i, hi, rfl, hB⟩ := hrel
        clear rd4 own4 own5 own6 d4 d5 d6 B4 B5 B6 S4 S5 S6 hB0 hS0 s0
        by_cases hlt : i < 9
        · have hbl := S.bytes_len i
          have hql := S.sq_le (n := i) (by omega)
          obtain ⟨mi, hmi⟩ : ∃ mi, i * i = mi := ⟨_, rfl⟩
          have hby := fun W => obytes_any i (by omega) W
          simp only [hmi] at hby hbl hql
          have HBL := Lib.hid hbl
          obtain ⟨x, hx⟩ : ∃ x, S.key (S.bytes i) = x := ⟨_, rfl⟩
          have HX := Lib.hid hx
          obtain ⟨has, hh⟩ : ∃ y, (S.get L x).isSome = y := ⟨_, rfl⟩
          obtain ⟨ob, hob⟩ : ∃ y, (S.get L x).getD [] = y := ⟨_, rfl⟩
          obtain ⟨kb, hkb⟩ : ∃ y, ob.length = y := ⟨_, rfl⟩
          obtain ⟨y, hy⟩ : ∃ y : UInt64, y.toNat = i := ⟨UInt64.ofNat i, UInt64.toNat_ofNat_of_lt' (by show _ < 18446744073709551616; omega)⟩
          obtain ⟨bd, hbd⟩ : ∃ z, (S.look L y).isSome = z := ⟨_, rfl⟩
          obtain ⟨j, hj⟩ : ∃ z, (S.look L y).getD 0 = z := ⟨_, rfl⟩
          have hsl := fun W h => slook_u base g bo bn sy v L y j bd hbd hj W h
          have hrl := fun W h => refLook_any F A n cap L (sc : Int) y j bd hbd hj hn2 hcap W h
          simp only [hy] at hsl hrl
          have HSG := Lib.hid (fun W h => sget_u base g bo bn sy v L x ob kb has hh hob hkb W h)
          have HRG := Lib.hid (fun W h => refGet_any F A n cap L (sc : Int) x ob kb has hh hob hkb hn2 hcap W h)
          have HSL := Lib.hid hsl
          have HRL := Lib.hid hrl
          have HKB := Lib.hid hkb
          have hi1 : (0 : Int) ≤ (i : Int) := by omega
          have hi2 : (i : Int) < 9 := by omega
          have hiw : IntKind.u64.wrap (i : Int) = (i : Int) := by rw [IntKind.wrap_u64]; omega
          clear hbl hmi hx hh hob hkb hbd hj hsl hrl hy
          go_wp2_with fail
          refine (hby _).mono ?_
          rintro e x1 ⟨A1, c1, rfl, _, own1, e1⟩
          have b1 := blater hB (Nat.le_refl _) e1
          go_wp2_with fail
          refine (key_any A1 mi c1 (S.bytes i) x HX.out HBL.out (by omega) _ (Reads.of_own own1)).mono ?_
          rintro e x2 ⟨rfl, e2⟩
          have b2 := blater b1 (Nat.le_refl _) e2
          clear own1 hby
          go_wp2_with fail
          refine (HSG.out _ (hs1.later b2)).mono ?_
          rintro e x3 ⟨A3, c3, rfl, r3, e3⟩
          have b3 := blater b2 (Nat.le_refl _) e3
          have t0 := (htw.below b3).cell0
          have t1 := (htw.below b3).cell1
          go_wp2_with fail
          refine (HRG.out _ (h1.later b3)).mono ?_
          rintro e x4 ⟨A7, c7, rfl, r7, e4⟩
          have b4 := blater b3 (Nat.le_refl _) e4
          have cva := conv_string x4 A3 kb c3 ob HKB.out (r3.later e4)
          have cvb := conv_string x4 A7 kb c7 ob HKB.out r7
          clear t0 t1
          go_wp2_with fail
          refine (HSL.out _ (hs1.later b4)).mono ?_
          rintro e xz ⟨rfl, rfl⟩
          have t0 := (htw.below b4).cell0
          have t1 := (htw.below b4).cell1
          clear cva cvb
          go_wp2_with fail
          refine (HRL.out _ (h1.later b4)).mono ?_
          rintro e x5 ⟨rfl, e5⟩
          have b5 := blater b4 (Nat.le_refl _) e5
          clear t0 t1
          go_wp2_with fail
          go_roundw
          case rel => exact ⟨i + 1, by omega, by go_num, b5⟩
          case measure => simp [intOf]; omega
        · have hi2 : (9 : Int) ≤ (i : Int) := by omega
          have bw := blater d1 (Nat.le_refl _) hB
          go_wp2_with fail
          go_ret
          exact ⟨rfl, bw⟩
  -- END
end Go.Proofs.Ytfanhbemmjcomaa
