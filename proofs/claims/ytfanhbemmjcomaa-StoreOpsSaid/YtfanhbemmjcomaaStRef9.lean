/- The reference's Do. -/
import Derived.Test.YtfanhbemmjcomaaStRef8
namespace Go.Proofs.Ytfanhbemmjcomaa
open Go.RowKit
set_option linter.unusedVariables false

/-- The cells that the region reads. -/
def DoS (g : Nat) (A : Option Addr) (n cap : Nat) (sc : Int) (nm : UInt64) (kn : Nat) (W : World) : Prop :=
  W.cell? ⟨g, 0, none⟩ = some (.slice A n cap) ∧ W.cell? ⟨g, 1, none⟩ = some (.int .i64 sc) ∧ W.cell? ⟨g + 1, 2, none⟩ = some (.int .u64 (nm.toNat : Int)) ∧ W.cell? ⟨g + 1, 3, none⟩ = some (.int .i64 (kn : Int))
theorem doS {g : Nat} {A : Option Addr} {n cap : Nat} {sc : Int} {nm : UInt64} {kn : Nat} {W W' : World} {B : Nat} (hb : Below B W W') (hB : B = W.heap.size) (h : DoS g A n cap sc nm kn W) : DoS g A n cap sc nm kn W' := by
  subst hB
  exact ⟨(hb.cell (cell_lt h.1)).trans h.1, (hb.cell (cell_lt h.2.1)).trans h.2.1, (hb.cell (cell_lt h.2.2.1)).trans h.2.2.1, (hb.cell (cell_lt h.2.2.2)).trans h.2.2.2⟩
def DoF (F : Nat → Prop) (g i : Nat) : Prop := F i ∨ i = g ∨ i = g + 1 + 1
def DoX (F : Nat → Prop) (g x i : Nat) : Prop := DoF F g i ∨ i = x
theorem doRef {W W' : World} {F : Nat → Prop} {g x n : Nat} {A : Option Addr} {L : List S.R} (h : RefAt W (DoX F g x) A n L) (t : Turn (fun i => i = x) W W') : RefAt W' (DoF F g) A n L :=
  h.turn (F := DoX F g x) (⟨t.os, t.tape, t.output, t.size, fun i hi hn => t.block i hi (fun e => hn (.inr e))⟩) (fun i hi => .inl (.inl hi))
set_option maxRecDepth 10000 in
set_option maxHeartbeats 4000000 in
theorem refDo_any (F : Nat → Prop) (A : Option Addr) (n cap : Nat) (L : List S.R) (sc : Int) (o : S.O) (ho : o.Ok) (kl kk kn : Nat) (nm : UInt64) (hkl : o.b.length = kl) (hkk : o.kind = kk) (hkn : o.num = kn) (hnm : o.name = nm) (Ab : Option Addr) (cb : Nat) (L' : List S.R) (k : UInt64) (er : Int) (hR : S.doo L o = (L', k, er)) (hn2 : n < 200) (hcap : n ≤ cap) (w : World) (h : RefAt w F A n L) (hr : Reads w w.heap.size 1 Ab kl (bv o.b)) (hA : ∀ ad, Ab = some ad → ad.block < w.heap.size ∧ ¬ F ad.block) (hF : ∀ i, F i → i < w.heap.size) :
    Calls Try.prog 23 #[.agg #[.slice A n cap, .int .i64 sc], .agg #[.int .i64 (kk : Int), .slice Ab kl cb, .int .u64 (nm.toNat : Int), .int .i64 (kn : Int)]] w fun e w' => ∃ A' n' c', e = .returned (.tuple #[.agg #[.slice A' n' c', .int .i64 (if kk = 2 then (n : Int) else sc)], .int .u64 (k.toNat : Int), .int .i64 er]) ∧ n' ≤ c' ∧ RefAt w' F A' n' L' ∧ Below w.heap.size w w' := by
  obtain ⟨hk2, hn8, hob⟩ := ho
  rw [hkk] at hk2
  rw [hkn] at hn8 hob
  obtain ⟨w1, hw1⟩ : ∃ x, w.alloc (.cells #[.slice A n cap, .int .i64 sc] 43) = x := ⟨_, rfl⟩
  obtain ⟨w2, hw2⟩ : ∃ x, w1.alloc (.cells #[.int .i64 (kk : Int), .slice Ab kl cb, .int .u64 (nm.toNat : Int), .int .i64 (kn : Int)] 48) = x := ⟨_, rfl⟩
  obtain ⟨w3, hw3⟩ : ∃ x, w2.alloc (.cells #[.slice none 0 0, .int .i64 0] 43) = x := ⟨_, rfl⟩
  have d1 : Below w.heap.size w w1 := by rw [← hw1]; exact (Below.refl _ _).alloc (Nat.le_refl _) _
  have d2 : Below w1.heap.size w1 w2 := by rw [← hw2]; exact (Below.refl _ _).alloc (Nat.le_refl _) _
  have d3 : Below w2.heap.size w2 w3 := by rw [← hw3]; exact (Below.refl _ _).alloc (Nat.le_refl _) _
  have s1 : w1.heap.size = w.heap.size + 1 := by rw [← hw1]; simp
  have s2 : w2.heap.size = w.heap.size + 1 + 1 := by rw [← hw2, World.size_alloc, s1]
  have s3 : w3.heap.size = w.heap.size + 1 + 1 + 1 := by rw [← hw3, World.size_alloc, s2]
  have hd3 := blater (blater d1 (Nat.le_refl _) d2) (Nat.le_refl _) d3
  have htw := Two.new w 43 (.slice A n cap) (.int .i64 sc)
  rw [hw1] at htw
  have hfo := Four.new w1 48 (.int .i64 (kk : Int)) (.slice Ab kl cb) (.int .u64 (nm.toNat : Int)) (.int .i64 (kn : Int))
  rw [hw2, s1] at hfo
  have tr3 := Two.new w2 43 (.slice none 0 0) (.int .i64 0)
  rw [hw3, s2] at tr3
  have tw3 := (htw.below d2).below d3
  have fo3 := hfo.below d3
  have t0 := tw3.cell0
  have t1 := tw3.cell1
  have c0 := fo3.cell0
  have c1 := fo3.cell1
  have c2 := fo3.cell2
  have c3 := fo3.cell3
  have z0 := tr3.cell0
  have z1 := tr3.cell1
  have g0 := tr3.frozen0
  have g1 := tr3.frozen1
  have hr3 := hr.later hd3
  have S3 := Lib.hid s3
  have hF3 : ∀ i, (F i ∨ i = w.heap.size ∨ i = w.heap.size + 1 + 1) → i < w3.heap.size := fun i hi => by
    rcases hi with hi | hi | hi
    · have := hF i hi; omega
    · omega
    · omega
  have h3 : RefAt w3 (fun i => F i ∨ i = w.heap.size ∨ i = w.heap.size + 1 + 1) A n L := (h.turn (Turn.refl F w) (G := fun i => F i ∨ i = w.heap.size ∨ i = w.heap.size + 1 + 1) (fun i hi => by
    rcases hi with hi | hi | hi
    · exact .inl hi
    · exact .inr (by omega)
    · exact .inr (by omega))).later hd3
  have hA3 : ∀ ad, Ab = some ad → ad.block < w3.heap.size ∧ ¬ (F ad.block ∨ ad.block = w.heap.size ∨ ad.block = w.heap.size + 1 + 1) := fun ad e => by
    have h1 := hA ad e
    refine ⟨by omega, ?_⟩
    rintro (h2 | h2 | h2)
    · exact h1.2 h2
    · omega
    · omega
  have HF3 := Lib.hid hF3
  have HA3 := Lib.hid hA3
  have HKL := Lib.hid hkl
  clear d1 d2 d3 htw hfo hF3 hA3 hA hF
  -- the end: the result's variable is written, what is read lies apart
  have hend : ∀ (W : World) (A' : Option Addr) (n' c' : Nat) (s' : Int) (M : List S.R), Below w.heap.size w W → RefAt W (fun i => F i ∨ i = w.heap.size ∨ i = w.heap.size + 1 + 1) A' n' M → RefAt ((W.setCell ⟨w.heap.size + 1 + 1, 0, none⟩ (.slice A' n' c')).setCell ⟨w.heap.size + 1 + 1, 1, none⟩ (.int .i64 s')) F A' n' M ∧ Below w.heap.size w ((W.setCell ⟨w.heap.size + 1 + 1, 0, none⟩ (.slice A' n' c')).setCell ⟨w.heap.size + 1 + 1, 1, none⟩ (.int .i64 s')) := fun W A' n' c' s' M hb hh => by
    have t8 := two_turn (w := W) (g := w.heap.size + 1 + 1) (.slice A' n' c') (.int .i64 s')
    exact ⟨hh.turn (G := F) (⟨t8.os, t8.tape, t8.output, t8.size, fun i hi hn => t8.block i hi (fun e => hn (.inr (.inr e)))⟩) (fun i hi => .inl (.inl hi)), hb.trans (t8.below hb.size (fun i hi => by omega))⟩
  have HEND := Lib.hid hend
  clear hend
  unfold S.doo at hR
  rw [hkk, hkn, hnm] at hR
  clear hkk hkn hnm hkl
  by_cases h0 : kk = 0
  · subst h0
    rw [if_pos rfl] at hR
    have HPUT : Hid (∀ W, W = w3 → Calls Try.prog 32 #[.agg #[.slice A n cap, .int .i64 sc], .slice Ab kl cb] W fun e w' => ∃ A' n' c', e = .returned (.tuple #[.agg #[.slice A' n' c', .int .i64 sc], .int .u64 (k.toNat : Int), .int .i64 er]) ∧ n' ≤ c' ∧ RefAt w' (fun i => F i ∨ i = w.heap.size ∨ i = w.heap.size + 1 + 1) A' n' L' ∧ Below W.heap.size W w') := Lib.hid (fun W e => by
      subst e
      exact refPut_any _ A n cap L sc Ab kl cb o.b HKL.out (by rw [← HKL.out, hob, S.bytes_len]; have := S.sq_le hn8; omega) L' k er hR hn2 hcap _ h3 hr3 HA3.out HF3.out)
    have hw2 : w1.alloc (.cells #[.int .i64 0, .slice Ab kl cb, .int .u64 (nm.toNat : Int), .int .i64 (kn : Int)] 48) = w2 := hw2
    have c0 : w3.cell? ⟨w.heap.size + 1, 0, none⟩ = some (.int .i64 0) := c0
    go_enter Try.func23, Try.ntmps23
    go_wp2_with fail
    try rw [hw1]
    try rw [hw2]
    try rw [hw3]
    clear hw1 hw2 hw3 s1 s2 s3
    try go_wp2_with fail
    refine (HPUT.out _ rfl).mono ?_
    rintro e w5 ⟨A5, n5, c5, rfl, hc5, h5, hd5⟩
    have b5 := blater hd3 (Nat.le_refl _) hd5
    obtain ⟨w6, hw6⟩ : ∃ y, w5.alloc (.cells #[.slice A5 n5 c5, .int .i64 sc] 43) = y := ⟨_, rfl⟩
    have d6 : Below w5.heap.size w5 w6 := by rw [← hw6]; exact (Below.refl _ _).alloc (Nat.le_refl _) _
    have t6 : Two w6 w5.heap.size 43 (.slice A5 n5 c5) (.int .i64 sc) := by rw [← hw6]; exact Two.new w5 _ _ _
    have tr6 := tr3.below (blater hd5 (Nat.le_refl _) d6)
    have y0 := t6.cell0
    have y1 := t6.cell1
    have z0 := tr6.cell0
    have z1 := tr6.cell1
    have g0 := tr6.frozen0
    have g1 := tr6.frozen1
    have h6 := h5.later d6
    have b6 := blater b5 (Nat.le_refl _) d6
    clear t0 t1 c0 c1 c2 c3
    go_wp2_with fail
    (try simp only [Exit.inBlock, Exit.then])
    refine bodyPost_ret (res_S3 rfl _ _ _ _ _ rfl ((tr6.set0 (.slice A5 n5 c5)).set1 (.int .i64 sc))) rfl ?_
    exact ⟨_, _, _, rfl, hc5, HEND.out w6 A5 n5 c5 sc L' b6 h6⟩
  · by_cases h1 : kk = 1
    · subst h1
      rw [if_neg (by decide), if_pos rfl] at hR
      obtain ⟨x, hx⟩ : ∃ x, S.key (S.bytes kn) = x := ⟨_, rfl⟩
      rw [hx] at hR
      obtain ⟨⟨L2, er2⟩, hB⟩ : ∃ r, S.bind L nm x = r := ⟨_, rfl⟩
      rw [hB] at hR
      injection hR with e1 e2; injection e2 with e2 e3
      have e1 : L2 = L' := e1
      have e3 : er2 = er := e3
      subst e1 e2 e3
      have HX := Lib.hid hx
      have hbl := S.bytes_len kn
      have hql := S.sq_le hn8
      obtain ⟨m, hm⟩ : ∃ m, kn * kn = m := ⟨_, rfl⟩
      have hby := fun W => obytes_any kn hn8 W
      simp only [hm] at hby hbl hql
      have HBL := Lib.hid hbl
      have HBIND := Lib.hid (fun G W h hF => refBind_any G A n cap L sc nm x L2 er2 hB hn2 hcap W h hF)
      have h3 : RefAt w3 (DoF F w.heap.size) A n L := h3
      clear hx hm hbl h0 hB
      have hw2 : w1.alloc (.cells #[.int .i64 1, .slice Ab kl cb, .int .u64 (nm.toNat : Int), .int .i64 (kn : Int)] 48) = w2 := hw2
      have c0 : w3.cell? ⟨w.heap.size + 1, 0, none⟩ = some (.int .i64 1) := c0
      have hdd : Below w3.heap.size w3 w3.drew := Below.drew (Below.refl w3.heap.size w3)
      go_enter Try.func23, Try.ntmps23
      go_wp2_with fail
      try rw [hw1]
      try rw [hw2]
      try rw [hw3]
      clear hw1 hw2 hw3 s1 s2 s3
      have s0 : DoS w.heap.size A n cap sc nm kn w3 := ⟨t0, t1, c2, c3⟩
      have hS0 : Below w3.heap.size w3 w3.drew := hdd
      have hS3 := doS hS0 rfl s0
      -- REGION
      refine wp_region_held_drew (S := DoS w.heap.size A n cap sc nm kn) (by kernel_rfl) hS3 (fun hHeld => ?_)
      clear hHeld
      (try simp only [Act.put, List.setIfInBounds_toArray, List.set_cons_zero, List.set_cons_succ])
      refine wpAnyH_take (i := 0) (oi := { dst := some 30, op := Op.load 43 (Operand.tmp 2), type := 43, pos := _, after := #[], guard := none }) (v := ?_) rfl (by kernel_rfl) (by kernel_rfl) (by kernel_rfl) (fun _ _ _ h => h) (Or.inl ⟨by rfl, ?_⟩) hS3 ?_
      rotate_left
      · intro w hSw; obtain ⟨z1, z2, z3, z4⟩ := hSw; go_simp; try with_reducible rfl
      (try simp only [Act.put, List.setIfInBounds_toArray, List.set_cons_zero, List.set_cons_succ])
      refine wpAnyH_take (i := 1) (oi := { dst := some 31, op := Op.fieldAddr 48 (Operand.tmp 3) 2, type := 0, pos := _, after := #[], guard := none }) (v := ?_) rfl (by kernel_rfl) (by kernel_rfl) (by kernel_rfl) (fun _ _ _ h => h) (Or.inl ⟨by rfl, ?_⟩) hS3 ?_
      rotate_left
      · intro w hSw; obtain ⟨z1, z2, z3, z4⟩ := hSw; go_simp; try with_reducible rfl
      (try simp only [Act.put, List.setIfInBounds_toArray, List.set_cons_zero, List.set_cons_succ])
      refine wpAnyH_take (i := 2) (oi := { dst := some 32, op := Op.load 23 (Operand.tmp 31), type := 23, pos := _, after := #[{ on := 1, ground := Ground.data }], guard := none }) (v := ?_) rfl (by kernel_rfl) (by kernel_rfl) (by kernel_rfl) (fun _ _ _ h => h) (Or.inl ⟨by rfl, ?_⟩) hS3 ?_
      rotate_left
      · intro w hSw; obtain ⟨z1, z2, z3, z4⟩ := hSw; go_simp; try with_reducible rfl
      (try simp only [Act.put, List.setIfInBounds_toArray, List.set_cons_zero, List.set_cons_succ])
      refine wpAnyH_take (i := 3) (oi := { dst := some 33, op := Op.fieldAddr 48 (Operand.tmp 3) 3, type := 0, pos := _, after := #[], guard := none }) (v := ?_) rfl (by kernel_rfl) (by kernel_rfl) (by kernel_rfl) (fun _ _ _ h => h) (Or.inl ⟨by rfl, ?_⟩) hS3 ?_
      rotate_left
      · intro w hSw; obtain ⟨z1, z2, z3, z4⟩ := hSw; go_simp; try with_reducible rfl
      (try simp only [Act.put, List.setIfInBounds_toArray, List.set_cons_zero, List.set_cons_succ])
      refine wpAnyH_take (i := 4) (oi := { dst := some 34, op := Op.load 3 (Operand.tmp 33), type := 3, pos := _, after := #[{ on := 3, ground := Ground.data }], guard := none }) (v := ?_) rfl (by kernel_rfl) (by kernel_rfl) (by kernel_rfl) (fun _ _ _ h => h) (Or.inl ⟨by rfl, ?_⟩) hS3 ?_
      rotate_left
      · intro w hSw; obtain ⟨z1, z2, z3, z4⟩ := hSw; go_simp; try with_reducible rfl
      (try simp only [Act.put, List.setIfInBounds_toArray, List.set_cons_zero, List.set_cons_succ])
      refine wpAnyH_ready (rs := [5, 11]) (by kernel_rfl) (by simp) (AllReadyH.cons (o := { dst := some 35, op := Op.call { callee := Callee.value (Operand.func 41), args := #[Operand.tmp 34], argTypes := #[3] }, type := 22, pos := _, after := #[{ on := 4, ground := Ground.data }], guard := none }) rfl (fun K hK => ?_) (AllReadyH.cons (o := { dst := some 10, op := Op.alloc 43, type := 0, pos := _, after := #[], guard := none }) rfl (fun K hK => ?_) AllReadyH.nil))
      · go_simp
        go_at_call 41
        refine (hby _).mono ?_
        rintro e v4 ⟨A2, c2', rfl, _, own2, dv4⟩
        have Bv4 := blater hS0 (Nat.le_refl _) dv4
        have Sv4 := doS Bv4 rfl s0
        have rbv4 := Reads.of_own own2
        go_simp
        refine hK.out _ _ Sv4 (fun hHeld => ?_)
        clear hK K hHeld
        (try simp only [Act.put, List.setIfInBounds_toArray, List.set_cons_zero, List.set_cons_succ])
        refine wpAnyH_ready (rs := [6, 11]) (by kernel_rfl) (by simp) (AllReadyH.cons (o := { dst := some 36, op := Op.call { callee := Callee.value (Operand.func 35), args := #[Operand.tmp 35], argTypes := #[22] }, type := 23, pos := _, after := #[{ on := 5, ground := Ground.data }, { on := 5, ground := Ground.chain }], guard := none }) rfl (fun K hK => ?_) (AllReadyH.cons (o := { dst := some 10, op := Op.alloc 43, type := 0, pos := _, after := #[], guard := none }) rfl (fun K hK => ?_) AllReadyH.nil))
        · go_simp
          go_at_call 35
          refine (key_any A2 m c2' (S.bytes kn) x HX.out HBL.out (by omega) _ rbv4).mono ?_
          rintro e v5 ⟨rfl, dv5⟩
          have Bv5 := blater Bv4 (Nat.le_refl _) dv5
          have Sv5 := doS Bv5 rfl s0
          have rbv5 := rbv4.later dv5
          go_simp
          refine hK.out _ _ Sv5 (fun hHeld => ?_)
          clear hK K hHeld
          (try simp only [Act.put, List.setIfInBounds_toArray, List.set_cons_zero, List.set_cons_succ])
          refine wpAnyH_ready (rs := [7, 11]) (by kernel_rfl) (by simp) (AllReadyH.cons (o := { dst := some 37, op := Op.call { callee := Callee.value (Operand.func 43), args := #[Operand.tmp 30, Operand.tmp 32, Operand.tmp 36], argTypes := #[43, 23, 23] }, type := 84, pos := _, after := #[{ on := 0, ground := Ground.data }, { on := 2, ground := Ground.data }, { on := 6, ground := Ground.data }, { on := 6, ground := Ground.chain }], guard := none }) rfl (fun K hK => ?_) (AllReadyH.cons (o := { dst := some 10, op := Op.alloc 43, type := 0, pos := _, after := #[], guard := none }) rfl (fun K hK => ?_) AllReadyH.nil))
          · go_simp
            go_at_call 43
            refine (HBIND.out _ _ (h3.later Bv5) (fun i hi => Nat.lt_of_lt_of_le (HF3.out i hi) Bv5.size)).mono ?_
            rintro e v6 ⟨A5, n5, c5, rfl, hc5, h5v6, dv6⟩
            have Bv6 := blater Bv5 (Nat.le_refl _) dv6
            have Sv6 := doS Bv6 rfl s0
            have rbv6 := rbv5.later dv6
            go_simp
            refine hK.out _ _ Sv6 (fun hHeld => ?_)
            clear hK K hHeld
            (try simp only [Act.put, List.setIfInBounds_toArray, List.set_cons_zero, List.set_cons_succ])
            refine wpAnyH_take (i := 8) (oi := { dst := some 29, op := Op.move (Operand.tmp 37), type := 84, pos := _, after := #[{ on := 7, ground := Ground.data }], guard := none }) (v := ?_) rfl (by kernel_rfl) (by kernel_rfl) (by kernel_rfl) (fun _ _ _ h => h) (Or.inl ⟨by rfl, ?_⟩) Sv6 ?_
            rotate_left
            · intro w hSw; obtain ⟨z1, z2, z3, z4⟩ := hSw; go_simp; try with_reducible rfl
            (try simp only [Act.put, List.setIfInBounds_toArray, List.set_cons_zero, List.set_cons_succ])
            refine wpAnyH_take (i := 9) (oi := { dst := some 38, op := Op.extract (Operand.tmp 29) 0, type := 43, pos := _, after := #[{ on := 8, ground := Ground.data }], guard := none }) (v := ?_) rfl (by kernel_rfl) (by kernel_rfl) (by kernel_rfl) (fun _ _ _ h => h) (Or.inl ⟨by rfl, ?_⟩) Sv6 ?_
            rotate_left
            · intro w hSw; obtain ⟨z1, z2, z3, z4⟩ := hSw; go_simp; try with_reducible rfl
            (try simp only [Act.put, List.setIfInBounds_toArray, List.set_cons_zero, List.set_cons_succ])
            refine wpAnyH_take (i := 10) (oi := { dst := some 39, op := Op.extract (Operand.tmp 29) 1, type := 27, pos := _, after := #[{ on := 8, ground := Ground.data }, { on := 12, ground := Ground.gcOnly Departure.lateStores }], guard := none }) (v := ?_) rfl (by kernel_rfl) (by kernel_rfl) (by kernel_rfl) (fun _ _ _ h => h) (Or.inl ⟨by rfl, ?_⟩) Sv6 ?_
            rotate_left
            · intro w hSw; obtain ⟨z1, z2, z3, z4⟩ := hSw; go_simp; try with_reducible rfl
            (try simp only [Act.put, List.setIfInBounds_toArray, List.set_cons_zero, List.set_cons_succ])
            refine wpAnyH_ready (rs := [11]) (by kernel_rfl) (by simp) (AllReadyH.cons (o := { dst := some 10, op := Op.alloc 43, type := 0, pos := _, after := #[], guard := none }) rfl (fun K hK => ?_) AllReadyH.nil)
            go_simp
            obtain ⟨v7, hv7⟩ : ∃ x, World.alloc v6 (.cells #[.slice none 0 0, .int .i64 0] 43) = x := ⟨_, rfl⟩
            have dv7 : Below v6.heap.size v6 v7 := by rw [← hv7]; exact (Below.refl _ _).alloc (Nat.le_refl _) _
            have Bv7 := blater Bv6 (Nat.le_refl _) dv7
            have Sv7 := doS Bv7 rfl s0
            have rbv7 := rbv6.later dv7
            have h5v7 := h5v6.turn (Turn.of_below _ dv7) (G := DoX F w.heap.size v6.heap.size) (fun i hi => by rcases hi with hi | hi; exact .inl hi; exact .inr (by omega))
            have tAv7 : Two v7 v6.heap.size 43 (.slice none 0 0) (.int .i64 0) := by rw [← hv7]; exact Two.new v6 _ _ _
            have hxv7 : w3.heap.size ≤ v6.heap.size := Bv6.size
            try rw [hv7]
            clear hv7
            refine hK.out _ _ Sv7 (fun hHeld => ?_)
            clear hK K hHeld
            (try simp only [Act.put, List.setIfInBounds_toArray, List.set_cons_zero, List.set_cons_succ])
            refine wpAnyH_ready (rs := [12]) (by kernel_rfl) (by simp) (AllReadyH.cons (o := { dst := none, op := Op.store 43 (Operand.tmp 10) (Operand.tmp 38), type := 0, pos := _, after := #[{ on := 11, ground := Ground.data }, { on := 9, ground := Ground.data }, { on := 7, ground := Ground.chain }, { on := 0, ground := Ground.phase }, { on := 1, ground := Ground.phase }, { on := 2, ground := Ground.phase }, { on := 3, ground := Ground.phase }, { on := 4, ground := Ground.phase }, { on := 5, ground := Ground.phase }, { on := 6, ground := Ground.phase }, { on := 7, ground := Ground.phase }, { on := 8, ground := Ground.phase }, { on := 9, ground := Ground.phase }, { on := 10, ground := Ground.textOnly Departure.lateStores }, { on := 11, ground := Ground.phase }], guard := none }) rfl (fun K hK => ?_) AllReadyH.nil)
            have k0 := tAv7.cell0
            have k1 := tAv7.cell1
            have k2 := tAv7.frozen0
            have k3 := tAv7.frozen1
            go_simp
            obtain ⟨w9, hw9⟩ : ∃ y, (World.setCell v7 ⟨v6.heap.size, 0, none⟩ (.slice A5 n5 c5)).setCell ⟨v6.heap.size, 1, none⟩ (.int .i64 sc) = y := ⟨_, rfl⟩
            have t9 : Turn (fun i => i = v6.heap.size) v7 w9 := by rw [← hw9]; exact two_turn _ _
            have tw9 : Two w9 v6.heap.size 43 (.slice A5 n5 c5) (.int .i64 sc) := by rw [← hw9]; exact (tAv7.set0 _).set1 _
            have B9 : Below w3.heap.size w3 w9 := Bv7.trans (t9.below Bv7.size (fun i hi => by have := hxv7; omega))
            have S9 := doS B9 rfl s0
            have h9 := doRef h5v7 t9
            try rw [hw9]
            clear hw9 k0 k1 k2 k3
            refine hK.out _ _ S9 (fun hHeld => ?_)
            clear hK K hHeld
            (try simp only [Act.put, List.setIfInBounds_toArray, List.set_cons_zero, List.set_cons_succ])
            refine wpAnyH_take (i := 13) (oi := { dst := some 11, op := Op.assign (Operand.tmp 39), type := 27, pos := _, after := #[{ on := 10, ground := Ground.data }, { on := 12, ground := Ground.chain }, { on := 0, ground := Ground.phase }, { on := 1, ground := Ground.phase }, { on := 2, ground := Ground.phase }, { on := 3, ground := Ground.phase }, { on := 4, ground := Ground.phase }, { on := 5, ground := Ground.phase }, { on := 6, ground := Ground.phase }, { on := 7, ground := Ground.phase }, { on := 8, ground := Ground.phase }, { on := 9, ground := Ground.phase }, { on := 10, ground := Ground.phase }, { on := 11, ground := Ground.phase }, { on := 12, ground := Ground.phase }], guard := none }) (v := ?_) rfl (by kernel_rfl) (by kernel_rfl) (by kernel_rfl) (fun _ _ _ h => h) (Or.inl ⟨by rfl, ?_⟩) S9 ?_
            rotate_left
            · intro w hSw; obtain ⟨z1, z2, z3, z4⟩ := hSw; go_simp; try with_reducible rfl
            (try simp only [Act.put, List.setIfInBounds_toArray, List.set_cons_zero, List.set_cons_succ])
            refine wpAnyH_done (by kernel_rfl) ?_ _
            have tr9 := tr3.below B9
            have y0 := tw9.cell0
            have y1 := tw9.cell1
            have y2 := tr9.cell0
            have y3 := tr9.cell1
            have y4 := tr9.frozen0
            have y5 := tr9.frozen1
            have b9 := blater hd3 (Nat.le_refl _) B9
            go_wp2_with fail
            (try simp only [Exit.inBlock, Exit.then])
            refine bodyPost_ret (res_S3 rfl _ _ _ _ _ rfl ((tr9.set0 (.slice A5 n5 c5)).set1 (.int .i64 sc))) rfl ?_
            exact ⟨_, _, _, rfl, hc5, HEND.out w9 A5 n5 c5 sc L2 b9 h9⟩
          · go_simp
            obtain ⟨v9, hv9⟩ : ∃ x, World.alloc v5 (.cells #[.slice none 0 0, .int .i64 0] 43) = x := ⟨_, rfl⟩
            have dv9 : Below v5.heap.size v5 v9 := by rw [← hv9]; exact (Below.refl _ _).alloc (Nat.le_refl _) _
            have Bv9 := blater Bv5 (Nat.le_refl _) dv9
            have Sv9 := doS Bv9 rfl s0
            have rbv9 := rbv5.later dv9
            have tAv9 : Two v9 v5.heap.size 43 (.slice none 0 0) (.int .i64 0) := by rw [← hv9]; exact Two.new v5 _ _ _
            have hxv9 : w3.heap.size ≤ v5.heap.size := Bv5.size
            try rw [hv9]
            clear hv9
            refine hK.out _ _ Sv9 (fun hHeld => ?_)
            clear hK K hHeld
            (try simp only [Act.put, List.setIfInBounds_toArray, List.set_cons_zero, List.set_cons_succ])
            refine wpAnyH_ready (rs := [7]) (by kernel_rfl) (by simp) (AllReadyH.cons (o := { dst := some 37, op := Op.call { callee := Callee.value (Operand.func 43), args := #[Operand.tmp 30, Operand.tmp 32, Operand.tmp 36], argTypes := #[43, 23, 23] }, type := 84, pos := _, after := #[{ on := 0, ground := Ground.data }, { on := 2, ground := Ground.data }, { on := 6, ground := Ground.data }, { on := 6, ground := Ground.chain }], guard := none }) rfl (fun K hK => ?_) AllReadyH.nil)
            go_simp
            go_at_call 43
            refine (HBIND.out (DoX F w.heap.size v5.heap.size) _ ((h3.turn (Turn.refl _ _) (G := DoX F w.heap.size v5.heap.size) (fun i hi => by rcases hi with hi | hi; exact .inl hi; exact .inr (by have := hxv9; omega))).later Bv9) (fun i hi => by rcases hi with hi | hi; exact Nat.lt_of_lt_of_le (HF3.out i hi) Bv9.size; subst hi; exact tAv9.lt)).mono ?_
            rintro e v10 ⟨A5, n5, c5, rfl, hc5, h5v10, dv10⟩
            have Bv10 := blater Bv9 (Nat.le_refl _) dv10
            have Sv10 := doS Bv10 rfl s0
            have tAv10 := tAv9.below dv10
            have rbv10 := rbv9.later dv10
            go_simp
            refine hK.out _ _ Sv10 (fun hHeld => ?_)
            clear hK K hHeld
            (try simp only [Act.put, List.setIfInBounds_toArray, List.set_cons_zero, List.set_cons_succ])
            refine wpAnyH_take (i := 8) (oi := { dst := some 29, op := Op.move (Operand.tmp 37), type := 84, pos := _, after := #[{ on := 7, ground := Ground.data }], guard := none }) (v := ?_) rfl (by kernel_rfl) (by kernel_rfl) (by kernel_rfl) (fun _ _ _ h => h) (Or.inl ⟨by rfl, ?_⟩) Sv10 ?_
            rotate_left
            · intro w hSw; obtain ⟨z1, z2, z3, z4⟩ := hSw; go_simp; try with_reducible rfl
            (try simp only [Act.put, List.setIfInBounds_toArray, List.set_cons_zero, List.set_cons_succ])
            refine wpAnyH_take (i := 9) (oi := { dst := some 38, op := Op.extract (Operand.tmp 29) 0, type := 43, pos := _, after := #[{ on := 8, ground := Ground.data }], guard := none }) (v := ?_) rfl (by kernel_rfl) (by kernel_rfl) (by kernel_rfl) (fun _ _ _ h => h) (Or.inl ⟨by rfl, ?_⟩) Sv10 ?_
            rotate_left
            · intro w hSw; obtain ⟨z1, z2, z3, z4⟩ := hSw; go_simp; try with_reducible rfl
            (try simp only [Act.put, List.setIfInBounds_toArray, List.set_cons_zero, List.set_cons_succ])
            refine wpAnyH_take (i := 10) (oi := { dst := some 39, op := Op.extract (Operand.tmp 29) 1, type := 27, pos := _, after := #[{ on := 8, ground := Ground.data }, { on := 12, ground := Ground.gcOnly Departure.lateStores }], guard := none }) (v := ?_) rfl (by kernel_rfl) (by kernel_rfl) (by kernel_rfl) (fun _ _ _ h => h) (Or.inl ⟨by rfl, ?_⟩) Sv10 ?_
            rotate_left
            · intro w hSw; obtain ⟨z1, z2, z3, z4⟩ := hSw; go_simp; try with_reducible rfl
            (try simp only [Act.put, List.setIfInBounds_toArray, List.set_cons_zero, List.set_cons_succ])
            refine wpAnyH_ready (rs := [12]) (by kernel_rfl) (by simp) (AllReadyH.cons (o := { dst := none, op := Op.store 43 (Operand.tmp 10) (Operand.tmp 38), type := 0, pos := _, after := #[{ on := 11, ground := Ground.data }, { on := 9, ground := Ground.data }, { on := 7, ground := Ground.chain }, { on := 0, ground := Ground.phase }, { on := 1, ground := Ground.phase }, { on := 2, ground := Ground.phase }, { on := 3, ground := Ground.phase }, { on := 4, ground := Ground.phase }, { on := 5, ground := Ground.phase }, { on := 6, ground := Ground.phase }, { on := 7, ground := Ground.phase }, { on := 8, ground := Ground.phase }, { on := 9, ground := Ground.phase }, { on := 10, ground := Ground.textOnly Departure.lateStores }, { on := 11, ground := Ground.phase }], guard := none }) rfl (fun K hK => ?_) AllReadyH.nil)
            have k0 := tAv10.cell0
            have k1 := tAv10.cell1
            have k2 := tAv10.frozen0
            have k3 := tAv10.frozen1
            go_simp
            obtain ⟨w9, hw9⟩ : ∃ y, (World.setCell v10 ⟨v5.heap.size, 0, none⟩ (.slice A5 n5 c5)).setCell ⟨v5.heap.size, 1, none⟩ (.int .i64 sc) = y := ⟨_, rfl⟩
            have t9 : Turn (fun i => i = v5.heap.size) v10 w9 := by rw [← hw9]; exact two_turn _ _
            have tw9 : Two w9 v5.heap.size 43 (.slice A5 n5 c5) (.int .i64 sc) := by rw [← hw9]; exact (tAv10.set0 _).set1 _
            have B9 : Below w3.heap.size w3 w9 := Bv10.trans (t9.below Bv10.size (fun i hi => by have := hxv9; omega))
            have S9 := doS B9 rfl s0
            have h9 := doRef h5v10 t9
            try rw [hw9]
            clear hw9 k0 k1 k2 k3
            refine hK.out _ _ S9 (fun hHeld => ?_)
            clear hK K hHeld
            (try simp only [Act.put, List.setIfInBounds_toArray, List.set_cons_zero, List.set_cons_succ])
            refine wpAnyH_take (i := 13) (oi := { dst := some 11, op := Op.assign (Operand.tmp 39), type := 27, pos := _, after := #[{ on := 10, ground := Ground.data }, { on := 12, ground := Ground.chain }, { on := 0, ground := Ground.phase }, { on := 1, ground := Ground.phase }, { on := 2, ground := Ground.phase }, { on := 3, ground := Ground.phase }, { on := 4, ground := Ground.phase }, { on := 5, ground := Ground.phase }, { on := 6, ground := Ground.phase }, { on := 7, ground := Ground.phase }, { on := 8, ground := Ground.phase }, { on := 9, ground := Ground.phase }, { on := 10, ground := Ground.phase }, { on := 11, ground := Ground.phase }, { on := 12, ground := Ground.phase }], guard := none }) (v := ?_) rfl (by kernel_rfl) (by kernel_rfl) (by kernel_rfl) (fun _ _ _ h => h) (Or.inl ⟨by rfl, ?_⟩) S9 ?_
            rotate_left
            · intro w hSw; obtain ⟨z1, z2, z3, z4⟩ := hSw; go_simp; try with_reducible rfl
            (try simp only [Act.put, List.setIfInBounds_toArray, List.set_cons_zero, List.set_cons_succ])
            refine wpAnyH_done (by kernel_rfl) ?_ _
            have tr9 := tr3.below B9
            have y0 := tw9.cell0
            have y1 := tw9.cell1
            have y2 := tr9.cell0
            have y3 := tr9.cell1
            have y4 := tr9.frozen0
            have y5 := tr9.frozen1
            have b9 := blater hd3 (Nat.le_refl _) B9
            go_wp2_with fail
            (try simp only [Exit.inBlock, Exit.then])
            refine bodyPost_ret (res_S3 rfl _ _ _ _ _ rfl ((tr9.set0 (.slice A5 n5 c5)).set1 (.int .i64 sc))) rfl ?_
            exact ⟨_, _, _, rfl, hc5, HEND.out w9 A5 n5 c5 sc L2 b9 h9⟩
        · go_simp
          obtain ⟨v12, hv12⟩ : ∃ x, World.alloc v4 (.cells #[.slice none 0 0, .int .i64 0] 43) = x := ⟨_, rfl⟩
          have dv12 : Below v4.heap.size v4 v12 := by rw [← hv12]; exact (Below.refl _ _).alloc (Nat.le_refl _) _
          have Bv12 := blater Bv4 (Nat.le_refl _) dv12
          have Sv12 := doS Bv12 rfl s0
          have rbv12 := rbv4.later dv12
          have tAv12 : Two v12 v4.heap.size 43 (.slice none 0 0) (.int .i64 0) := by rw [← hv12]; exact Two.new v4 _ _ _
          have hxv12 : w3.heap.size ≤ v4.heap.size := Bv4.size
          try rw [hv12]
          clear hv12
          refine hK.out _ _ Sv12 (fun hHeld => ?_)
          clear hK K hHeld
          (try simp only [Act.put, List.setIfInBounds_toArray, List.set_cons_zero, List.set_cons_succ])
          refine wpAnyH_ready (rs := [6]) (by kernel_rfl) (by simp) (AllReadyH.cons (o := { dst := some 36, op := Op.call { callee := Callee.value (Operand.func 35), args := #[Operand.tmp 35], argTypes := #[22] }, type := 23, pos := _, after := #[{ on := 5, ground := Ground.data }, { on := 5, ground := Ground.chain }], guard := none }) rfl (fun K hK => ?_) AllReadyH.nil)
          go_simp
          go_at_call 35
          refine (key_any A2 m c2' (S.bytes kn) x HX.out HBL.out (by omega) _ rbv12).mono ?_
          rintro e v13 ⟨rfl, dv13⟩
          have Bv13 := blater Bv12 (Nat.le_refl _) dv13
          have Sv13 := doS Bv13 rfl s0
          have tAv13 := tAv12.below dv13
          have rbv13 := rbv12.later dv13
          go_simp
          refine hK.out _ _ Sv13 (fun hHeld => ?_)
          clear hK K hHeld
          (try simp only [Act.put, List.setIfInBounds_toArray, List.set_cons_zero, List.set_cons_succ])
          refine wpAnyH_ready (rs := [7]) (by kernel_rfl) (by simp) (AllReadyH.cons (o := { dst := some 37, op := Op.call { callee := Callee.value (Operand.func 43), args := #[Operand.tmp 30, Operand.tmp 32, Operand.tmp 36], argTypes := #[43, 23, 23] }, type := 84, pos := _, after := #[{ on := 0, ground := Ground.data }, { on := 2, ground := Ground.data }, { on := 6, ground := Ground.data }, { on := 6, ground := Ground.chain }], guard := none }) rfl (fun K hK => ?_) AllReadyH.nil)
          go_simp
          go_at_call 43
          refine (HBIND.out (DoX F w.heap.size v4.heap.size) _ ((h3.turn (Turn.refl _ _) (G := DoX F w.heap.size v4.heap.size) (fun i hi => by rcases hi with hi | hi; exact .inl hi; exact .inr (by have := hxv12; omega))).later Bv13) (fun i hi => by rcases hi with hi | hi; exact Nat.lt_of_lt_of_le (HF3.out i hi) Bv13.size; subst hi; exact tAv13.lt)).mono ?_
          rintro e v14 ⟨A5, n5, c5, rfl, hc5, h5v14, dv14⟩
          have Bv14 := blater Bv13 (Nat.le_refl _) dv14
          have Sv14 := doS Bv14 rfl s0
          have tAv14 := tAv13.below dv14
          have rbv14 := rbv13.later dv14
          go_simp
          refine hK.out _ _ Sv14 (fun hHeld => ?_)
          clear hK K hHeld
          (try simp only [Act.put, List.setIfInBounds_toArray, List.set_cons_zero, List.set_cons_succ])
          refine wpAnyH_take (i := 8) (oi := { dst := some 29, op := Op.move (Operand.tmp 37), type := 84, pos := _, after := #[{ on := 7, ground := Ground.data }], guard := none }) (v := ?_) rfl (by kernel_rfl) (by kernel_rfl) (by kernel_rfl) (fun _ _ _ h => h) (Or.inl ⟨by rfl, ?_⟩) Sv14 ?_
          rotate_left
          · intro w hSw; obtain ⟨z1, z2, z3, z4⟩ := hSw; go_simp; try with_reducible rfl
          (try simp only [Act.put, List.setIfInBounds_toArray, List.set_cons_zero, List.set_cons_succ])
          refine wpAnyH_take (i := 9) (oi := { dst := some 38, op := Op.extract (Operand.tmp 29) 0, type := 43, pos := _, after := #[{ on := 8, ground := Ground.data }], guard := none }) (v := ?_) rfl (by kernel_rfl) (by kernel_rfl) (by kernel_rfl) (fun _ _ _ h => h) (Or.inl ⟨by rfl, ?_⟩) Sv14 ?_
          rotate_left
          · intro w hSw; obtain ⟨z1, z2, z3, z4⟩ := hSw; go_simp; try with_reducible rfl
          (try simp only [Act.put, List.setIfInBounds_toArray, List.set_cons_zero, List.set_cons_succ])
          refine wpAnyH_take (i := 10) (oi := { dst := some 39, op := Op.extract (Operand.tmp 29) 1, type := 27, pos := _, after := #[{ on := 8, ground := Ground.data }, { on := 12, ground := Ground.gcOnly Departure.lateStores }], guard := none }) (v := ?_) rfl (by kernel_rfl) (by kernel_rfl) (by kernel_rfl) (fun _ _ _ h => h) (Or.inl ⟨by rfl, ?_⟩) Sv14 ?_
          rotate_left
          · intro w hSw; obtain ⟨z1, z2, z3, z4⟩ := hSw; go_simp; try with_reducible rfl
          (try simp only [Act.put, List.setIfInBounds_toArray, List.set_cons_zero, List.set_cons_succ])
          refine wpAnyH_ready (rs := [12]) (by kernel_rfl) (by simp) (AllReadyH.cons (o := { dst := none, op := Op.store 43 (Operand.tmp 10) (Operand.tmp 38), type := 0, pos := _, after := #[{ on := 11, ground := Ground.data }, { on := 9, ground := Ground.data }, { on := 7, ground := Ground.chain }, { on := 0, ground := Ground.phase }, { on := 1, ground := Ground.phase }, { on := 2, ground := Ground.phase }, { on := 3, ground := Ground.phase }, { on := 4, ground := Ground.phase }, { on := 5, ground := Ground.phase }, { on := 6, ground := Ground.phase }, { on := 7, ground := Ground.phase }, { on := 8, ground := Ground.phase }, { on := 9, ground := Ground.phase }, { on := 10, ground := Ground.textOnly Departure.lateStores }, { on := 11, ground := Ground.phase }], guard := none }) rfl (fun K hK => ?_) AllReadyH.nil)
          have k0 := tAv14.cell0
          have k1 := tAv14.cell1
          have k2 := tAv14.frozen0
          have k3 := tAv14.frozen1
          go_simp
          obtain ⟨w9, hw9⟩ : ∃ y, (World.setCell v14 ⟨v4.heap.size, 0, none⟩ (.slice A5 n5 c5)).setCell ⟨v4.heap.size, 1, none⟩ (.int .i64 sc) = y := ⟨_, rfl⟩
          have t9 : Turn (fun i => i = v4.heap.size) v14 w9 := by rw [← hw9]; exact two_turn _ _
          have tw9 : Two w9 v4.heap.size 43 (.slice A5 n5 c5) (.int .i64 sc) := by rw [← hw9]; exact (tAv14.set0 _).set1 _
          have B9 : Below w3.heap.size w3 w9 := Bv14.trans (t9.below Bv14.size (fun i hi => by have := hxv12; omega))
          have S9 := doS B9 rfl s0
          have h9 := doRef h5v14 t9
          try rw [hw9]
          clear hw9 k0 k1 k2 k3
          refine hK.out _ _ S9 (fun hHeld => ?_)
          clear hK K hHeld
          (try simp only [Act.put, List.setIfInBounds_toArray, List.set_cons_zero, List.set_cons_succ])
          refine wpAnyH_take (i := 13) (oi := { dst := some 11, op := Op.assign (Operand.tmp 39), type := 27, pos := _, after := #[{ on := 10, ground := Ground.data }, { on := 12, ground := Ground.chain }, { on := 0, ground := Ground.phase }, { on := 1, ground := Ground.phase }, { on := 2, ground := Ground.phase }, { on := 3, ground := Ground.phase }, { on := 4, ground := Ground.phase }, { on := 5, ground := Ground.phase }, { on := 6, ground := Ground.phase }, { on := 7, ground := Ground.phase }, { on := 8, ground := Ground.phase }, { on := 9, ground := Ground.phase }, { on := 10, ground := Ground.phase }, { on := 11, ground := Ground.phase }, { on := 12, ground := Ground.phase }], guard := none }) (v := ?_) rfl (by kernel_rfl) (by kernel_rfl) (by kernel_rfl) (fun _ _ _ h => h) (Or.inl ⟨by rfl, ?_⟩) S9 ?_
          rotate_left
          · intro w hSw; obtain ⟨z1, z2, z3, z4⟩ := hSw; go_simp; try with_reducible rfl
          (try simp only [Act.put, List.setIfInBounds_toArray, List.set_cons_zero, List.set_cons_succ])
          refine wpAnyH_done (by kernel_rfl) ?_ _
          have tr9 := tr3.below B9
          have y0 := tw9.cell0
          have y1 := tw9.cell1
          have y2 := tr9.cell0
          have y3 := tr9.cell1
          have y4 := tr9.frozen0
          have y5 := tr9.frozen1
          have b9 := blater hd3 (Nat.le_refl _) B9
          go_wp2_with fail
          (try simp only [Exit.inBlock, Exit.then])
          refine bodyPost_ret (res_S3 rfl _ _ _ _ _ rfl ((tr9.set0 (.slice A5 n5 c5)).set1 (.int .i64 sc))) rfl ?_
          exact ⟨_, _, _, rfl, hc5, HEND.out w9 A5 n5 c5 sc L2 b9 h9⟩
      · go_simp
        obtain ⟨v16, hv16⟩ : ∃ x, (World.alloc w3 (.cells #[.slice none 0 0, .int .i64 0] 43)).drew = x := ⟨_, rfl⟩
        have dv16 : Below w3.drew.heap.size w3.drew v16 := by rw [← hv16]; exact (Below.refl _ _).alloc (Nat.le_refl _) _
        have Bv16 := blater hS0 (Nat.le_refl _) dv16
        have Sv16 := doS Bv16 rfl s0
        have tAv16 : Two v16 w3.heap.size 43 (.slice none 0 0) (.int .i64 0) := by rw [← hv16]; exact Two.new w3.drew _ _ _
        have hxv16 : w3.heap.size ≤ w3.heap.size := Nat.le_refl _
        try rw [hv16]
        clear hv16
        refine hK.out _ _ Sv16 (fun hHeld => ?_)
        clear hK K hHeld
        (try simp only [Act.put, List.setIfInBounds_toArray, List.set_cons_zero, List.set_cons_succ])
        refine wpAnyH_ready (rs := [5]) (by kernel_rfl) (by simp) (AllReadyH.cons (o := { dst := some 35, op := Op.call { callee := Callee.value (Operand.func 41), args := #[Operand.tmp 34], argTypes := #[3] }, type := 22, pos := _, after := #[{ on := 4, ground := Ground.data }], guard := none }) rfl (fun K hK => ?_) AllReadyH.nil)
        go_simp
        go_at_call 41
        refine (hby _).mono ?_
        rintro e v17 ⟨A2, c2', rfl, _, own2, dv17⟩
        have Bv17 := blater Bv16 (Nat.le_refl _) dv17
        have Sv17 := doS Bv17 rfl s0
        have tAv17 := tAv16.below dv17
        have rbv17 := Reads.of_own own2
        go_simp
        refine hK.out _ _ Sv17 (fun hHeld => ?_)
        clear hK K hHeld
        (try simp only [Act.put, List.setIfInBounds_toArray, List.set_cons_zero, List.set_cons_succ])
        refine wpAnyH_ready (rs := [6]) (by kernel_rfl) (by simp) (AllReadyH.cons (o := { dst := some 36, op := Op.call { callee := Callee.value (Operand.func 35), args := #[Operand.tmp 35], argTypes := #[22] }, type := 23, pos := _, after := #[{ on := 5, ground := Ground.data }, { on := 5, ground := Ground.chain }], guard := none }) rfl (fun K hK => ?_) AllReadyH.nil)
        go_simp
        go_at_call 35
        refine (key_any A2 m c2' (S.bytes kn) x HX.out HBL.out (by omega) _ rbv17).mono ?_
        rintro e v18 ⟨rfl, dv18⟩
        have Bv18 := blater Bv17 (Nat.le_refl _) dv18
        have Sv18 := doS Bv18 rfl s0
        have tAv18 := tAv17.below dv18
        have rbv18 := rbv17.later dv18
        go_simp
        refine hK.out _ _ Sv18 (fun hHeld => ?_)
        clear hK K hHeld
        (try simp only [Act.put, List.setIfInBounds_toArray, List.set_cons_zero, List.set_cons_succ])
        refine wpAnyH_ready (rs := [7]) (by kernel_rfl) (by simp) (AllReadyH.cons (o := { dst := some 37, op := Op.call { callee := Callee.value (Operand.func 43), args := #[Operand.tmp 30, Operand.tmp 32, Operand.tmp 36], argTypes := #[43, 23, 23] }, type := 84, pos := _, after := #[{ on := 0, ground := Ground.data }, { on := 2, ground := Ground.data }, { on := 6, ground := Ground.data }, { on := 6, ground := Ground.chain }], guard := none }) rfl (fun K hK => ?_) AllReadyH.nil)
        go_simp
        go_at_call 43
        refine (HBIND.out (DoX F w.heap.size w3.heap.size) _ ((h3.turn (Turn.refl _ _) (G := DoX F w.heap.size w3.heap.size) (fun i hi => by rcases hi with hi | hi; exact .inl hi; exact .inr (by have := hxv16; omega))).later Bv18) (fun i hi => by rcases hi with hi | hi; exact Nat.lt_of_lt_of_le (HF3.out i hi) Bv18.size; subst hi; exact tAv18.lt)).mono ?_
        rintro e v19 ⟨A5, n5, c5, rfl, hc5, h5v19, dv19⟩
        have Bv19 := blater Bv18 (Nat.le_refl _) dv19
        have Sv19 := doS Bv19 rfl s0
        have tAv19 := tAv18.below dv19
        have rbv19 := rbv18.later dv19
        go_simp
        refine hK.out _ _ Sv19 (fun hHeld => ?_)
        clear hK K hHeld
        (try simp only [Act.put, List.setIfInBounds_toArray, List.set_cons_zero, List.set_cons_succ])
        refine wpAnyH_take (i := 8) (oi := { dst := some 29, op := Op.move (Operand.tmp 37), type := 84, pos := _, after := #[{ on := 7, ground := Ground.data }], guard := none }) (v := ?_) rfl (by kernel_rfl) (by kernel_rfl) (by kernel_rfl) (fun _ _ _ h => h) (Or.inl ⟨by rfl, ?_⟩) Sv19 ?_
        rotate_left
        · intro w hSw; obtain ⟨z1, z2, z3, z4⟩ := hSw; go_simp; try with_reducible rfl
        (try simp only [Act.put, List.setIfInBounds_toArray, List.set_cons_zero, List.set_cons_succ])
        refine wpAnyH_take (i := 9) (oi := { dst := some 38, op := Op.extract (Operand.tmp 29) 0, type := 43, pos := _, after := #[{ on := 8, ground := Ground.data }], guard := none }) (v := ?_) rfl (by kernel_rfl) (by kernel_rfl) (by kernel_rfl) (fun _ _ _ h => h) (Or.inl ⟨by rfl, ?_⟩) Sv19 ?_
        rotate_left
        · intro w hSw; obtain ⟨z1, z2, z3, z4⟩ := hSw; go_simp; try with_reducible rfl
        (try simp only [Act.put, List.setIfInBounds_toArray, List.set_cons_zero, List.set_cons_succ])
        refine wpAnyH_take (i := 10) (oi := { dst := some 39, op := Op.extract (Operand.tmp 29) 1, type := 27, pos := _, after := #[{ on := 8, ground := Ground.data }, { on := 12, ground := Ground.gcOnly Departure.lateStores }], guard := none }) (v := ?_) rfl (by kernel_rfl) (by kernel_rfl) (by kernel_rfl) (fun _ _ _ h => h) (Or.inl ⟨by rfl, ?_⟩) Sv19 ?_
        rotate_left
        · intro w hSw; obtain ⟨z1, z2, z3, z4⟩ := hSw; go_simp; try with_reducible rfl
        (try simp only [Act.put, List.setIfInBounds_toArray, List.set_cons_zero, List.set_cons_succ])
        refine wpAnyH_ready (rs := [12]) (by kernel_rfl) (by simp) (AllReadyH.cons (o := { dst := none, op := Op.store 43 (Operand.tmp 10) (Operand.tmp 38), type := 0, pos := _, after := #[{ on := 11, ground := Ground.data }, { on := 9, ground := Ground.data }, { on := 7, ground := Ground.chain }, { on := 0, ground := Ground.phase }, { on := 1, ground := Ground.phase }, { on := 2, ground := Ground.phase }, { on := 3, ground := Ground.phase }, { on := 4, ground := Ground.phase }, { on := 5, ground := Ground.phase }, { on := 6, ground := Ground.phase }, { on := 7, ground := Ground.phase }, { on := 8, ground := Ground.phase }, { on := 9, ground := Ground.phase }, { on := 10, ground := Ground.textOnly Departure.lateStores }, { on := 11, ground := Ground.phase }], guard := none }) rfl (fun K hK => ?_) AllReadyH.nil)
        have k0 := tAv19.cell0
        have k1 := tAv19.cell1
        have k2 := tAv19.frozen0
        have k3 := tAv19.frozen1
        go_simp
        obtain ⟨w9, hw9⟩ : ∃ y, (World.setCell v19 ⟨w3.heap.size, 0, none⟩ (.slice A5 n5 c5)).setCell ⟨w3.heap.size, 1, none⟩ (.int .i64 sc) = y := ⟨_, rfl⟩
        have t9 : Turn (fun i => i = w3.heap.size) v19 w9 := by rw [← hw9]; exact two_turn _ _
        have tw9 : Two w9 w3.heap.size 43 (.slice A5 n5 c5) (.int .i64 sc) := by rw [← hw9]; exact (tAv19.set0 _).set1 _
        have B9 : Below w3.heap.size w3 w9 := Bv19.trans (t9.below Bv19.size (fun i hi => by have := hxv16; omega))
        have S9 := doS B9 rfl s0
        have h9 := doRef h5v19 t9
        try rw [hw9]
        clear hw9 k0 k1 k2 k3
        refine hK.out _ _ S9 (fun hHeld => ?_)
        clear hK K hHeld
        (try simp only [Act.put, List.setIfInBounds_toArray, List.set_cons_zero, List.set_cons_succ])
        refine wpAnyH_take (i := 13) (oi := { dst := some 11, op := Op.assign (Operand.tmp 39), type := 27, pos := _, after := #[{ on := 10, ground := Ground.data }, { on := 12, ground := Ground.chain }, { on := 0, ground := Ground.phase }, { on := 1, ground := Ground.phase }, { on := 2, ground := Ground.phase }, { on := 3, ground := Ground.phase }, { on := 4, ground := Ground.phase }, { on := 5, ground := Ground.phase }, { on := 6, ground := Ground.phase }, { on := 7, ground := Ground.phase }, { on := 8, ground := Ground.phase }, { on := 9, ground := Ground.phase }, { on := 10, ground := Ground.phase }, { on := 11, ground := Ground.phase }, { on := 12, ground := Ground.phase }], guard := none }) (v := ?_) rfl (by kernel_rfl) (by kernel_rfl) (by kernel_rfl) (fun _ _ _ h => h) (Or.inl ⟨by rfl, ?_⟩) S9 ?_
        rotate_left
        · intro w hSw; obtain ⟨z1, z2, z3, z4⟩ := hSw; go_simp; try with_reducible rfl
        (try simp only [Act.put, List.setIfInBounds_toArray, List.set_cons_zero, List.set_cons_succ])
        refine wpAnyH_done (by kernel_rfl) ?_ _
        have tr9 := tr3.below B9
        have y0 := tw9.cell0
        have y1 := tw9.cell1
        have y2 := tr9.cell0
        have y3 := tr9.cell1
        have y4 := tr9.frozen0
        have y5 := tr9.frozen1
        have b9 := blater hd3 (Nat.le_refl _) B9
        go_wp2_with fail
        (try simp only [Exit.inBlock, Exit.then])
        refine bodyPost_ret (res_S3 rfl _ _ _ _ _ rfl ((tr9.set0 (.slice A5 n5 c5)).set1 (.int .i64 sc))) rfl ?_
        exact ⟨_, _, _, rfl, hc5, HEND.out w9 A5 n5 c5 sc L2 b9 h9⟩
      -- END
    · obtain rfl : kk = 2 := by omega
      rw [if_neg (by decide), if_neg (by decide)] at hR
      injection hR with e1 e2; injection e2 with e2 e3
      subst e1 e2 e3
      have hw2 : w1.alloc (.cells #[.int .i64 2, .slice Ab kl cb, .int .u64 (nm.toNat : Int), .int .i64 (kn : Int)] 48) = w2 := hw2
      have c0 : w3.cell? ⟨w.heap.size + 1, 0, none⟩ = some (.int .i64 2) := c0
      obtain ⟨w6, hw6⟩ : ∃ y, w3.setCell ⟨w.heap.size, 1, none⟩ (.int .i64 (n : Int)) = y := ⟨_, rfl⟩
      have f1 := tw3.frozen1
      have t6 : Two w6 w.heap.size 43 (.slice A n cap) (.int .i64 (n : Int)) := by rw [← hw6]; exact tw3.set1 _
      have g6 : w3.grownBy w6 (some w.heap.size) := by rw [← hw6]; exact set1_grown w3 ⟨w.heap.size, 1, none⟩ (.int .i64 (n : Int))
      have tr6 := tr3.kept g6 (fun e => by injection e with e; omega)
      have y0 := t6.cell0
      have y1 := t6.cell1
      have z0 := tr6.cell0
      have z1 := tr6.cell1
      have g0 := tr6.frozen0
      have g1 := tr6.frozen1
      have tt : Turn (fun i => F i ∨ i = w.heap.size ∨ i = w.heap.size + 1 + 1) w3 w6 := Turn.of_grown g6 (fun i e => .inl (.inr (.inl (by injection e with e; exact e.symm))))
      have h6 := h3.turn tt (fun i hi => .inl hi)
      have b6 : Below w.heap.size w w6 := hd3.trans (Turn.below (F := fun i => i = w.heap.size) (Turn.of_grown g6 (fun i e => .inl (by injection e with e; exact e.symm))) hd3.size (fun i hi => by omega))
      go_enter Try.func23, Try.ntmps23
      go_wp2_with fail
      (try simp only [Exit.inBlock, Exit.then])
      refine bodyPost_ret (res_S3 rfl _ _ _ _ _ rfl ((tr6.set0 (.slice A n cap)).set1 (.int .i64 (n : Int)))) rfl ?_
      exact ⟨_, _, _, rfl, hcap, HEND.out w6 A n cap (n : Int) L b6 h6⟩
end Go.Proofs.Ytfanhbemmjcomaa
