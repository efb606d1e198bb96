/- The reference's Ops, walked. -/
import Derived.Test.YtfanhbemmjcomaaStOps
namespace Go.Proofs.Ytfanhbemmjcomaa
open Go.RowKit
set_option linter.unusedVariables false

theorem Four.set2 {W : World} {g : Nat} {T : TypeId} {a b c d : Value} (h : Four W g T a b c d) (u : Value) : Four (W.setCell ⟨g, 2, none⟩ u) g T a b u d := by
  have h' : W.heap[g]? = _ := h
  unfold Four World.setCell
  simp [h', Array.getElem?_modify]
theorem Four.set3 {W : World} {g : Nat} {T : TypeId} {a b c d : Value} (h : Four W g T a b c d) (u : Value) : Four (W.setCell ⟨g, 3, none⟩ u) g T a b c u := by
  have h' : W.heap[g]? = _ := h
  unfold Four World.setCell
  simp [h', Array.getElem?_modify]
theorem infoOp : (Try.prog.info? 48).map (fun i => (i.zero, i.size, i.bytes)) = some (some (.agg #[.int .i64 0, .slice none 0 0, .int .u64 0, .int .i64 0]), 4, 48) := by kernel_rfl
/-- Four cells an operation; the rows of its bytes lie apart of the block 'own', from block lo on. -/
def OpRow (W : World) (lo : Nat) (own : Option Nat) (cells : List Value) (ops : List S.O) : Prop :=
  cells.length = ops.length * 4 ∧ ∀ k o, ops[k]? = some o → ∃ Ab cb, cells[k * 4]? = some (.int .i64 (o.kind : Int)) ∧ cells[k * 4 + 1]? = some (.slice Ab o.b.length cb) ∧ cells[k * 4 + 2]? = some (.int .u64 (o.name.toNat : Int)) ∧ cells[k * 4 + 3]? = some (.int .i64 (o.num : Int)) ∧
    Reads W W.heap.size 1 Ab o.b.length (bv o.b) ∧ ∀ ad, Ab = some ad → lo ≤ ad.block ∧ ad.block < W.heap.size ∧ some ad.block ≠ own
theorem OpRow.nil (W : World) (lo : Nat) (own : Option Nat) : OpRow W lo own [] [] := ⟨rfl, fun k o h => by simp at h⟩
theorem OpRow.snoc {wr W w' : World} {lo : Nat} {v v' : Value} {cells : List Value} {ops : List S.O} (h : OpRow wr lo v.ownBlock cells ops) (hW : Below wr.heap.size wr W) (o : S.O) (Ab : Option Addr) (n cb : Nat) (hn : o.b.length = n) (hr : Reads W W.heap.size 1 Ab n (bv o.b)) (hA : ∀ ad, Ab = some ad → lo ≤ ad.block ∧ ad.block < W.heap.size ∧ some ad.block ≠ v.ownBlock)
    (hgrow : W.grownBy w' v.ownBlock) (hat : v'.ownBlock = v.ownBlock ∨ v'.ownBlock = some W.heap.size) :
    OpRow w' lo v'.ownBlock (cells ++ [.int .i64 (o.kind : Int), .slice Ab n cb, .int .u64 (o.name.toNat : Int), .int .i64 (o.num : Int)]) (ops ++ [o]) := by
  subst hn
  refine ⟨by simp [h.1, Nat.add_mul], fun k x hx => ?_⟩
  have fin : ∀ (A : Option Addr) (m : Nat) (l : List UInt8), Reads W W.heap.size 1 A m (bv l) → (∀ ad, A = some ad → lo ≤ ad.block ∧ ad.block < W.heap.size ∧ some ad.block ≠ v.ownBlock) → Reads w' w'.heap.size 1 A m (bv l) ∧ ∀ ad, A = some ad → lo ≤ ad.block ∧ ad.block < w'.heap.size ∧ some ad.block ≠ v'.ownBlock := by
    intro A m l h1 h2
    refine ⟨⟨h1.1, fun hn => ?_⟩, fun ad e => ⟨(h2 ad e).1, Nat.lt_of_lt_of_le (h2 ad e).2.1 hgrow.size, ?_⟩⟩
    · obtain ⟨ad, e, hb, hc⟩ := h1.2 hn
      refine ⟨ad, e, Nat.lt_of_lt_of_le hb hgrow.size, fun j u hu => ?_⟩
      rw [← hc j u hu]
      refine World.cell?_of_block ?_
      rw [block_of_add]
      exact hgrow.block _ hb (h2 ad e).2.2
    · rcases hat with h3 | h3
      · rw [h3]; exact (h2 ad e).2.2
      · rw [h3]; intro e2; injection e2 with e2; have := (h2 ad e).2.1; omega
  by_cases hk : k < ops.length
  · rw [List.getElem?_append_left hk] at hx
    obtain ⟨A, c, c0, c1, c2, c3, h5, h6⟩ := h.2 k x hx
    have hl : k * 4 + 3 < cells.length := by rw [h.1]; omega
    obtain ⟨f1, f2⟩ := fin A _ _ (h5.later hW) (fun ad e => ⟨(h6 ad e).1, Nat.lt_of_lt_of_le (h6 ad e).2.1 hW.size, (h6 ad e).2.2⟩)
    exact ⟨A, c, by rw [List.getElem?_append_left (by omega)]; exact c0, by rw [List.getElem?_append_left (by omega)]; exact c1, by rw [List.getElem?_append_left (by omega)]; exact c2, by rw [List.getElem?_append_left (by omega)]; exact c3, f1, f2⟩
  · have hke : k = ops.length := by
      have := (List.getElem?_eq_some_iff.1 hx).1
      simp at this; omega
    subst hke
    rw [List.getElem?_append_right (Nat.le_refl _)] at hx
    obtain rfl : o = x := by simpa using hx
    obtain ⟨f1, f2⟩ := fin Ab _ _ hr hA
    have e : ops.length * 4 = cells.length := h.1.symm
    rw [e]
    exact ⟨Ab, cb, by simp, by simp, by simp, by simp, f1, f2⟩
/-- The slice value v holds the operations; all its blocks lie apart of F. -/
def OpsAt (W : World) (F : Nat → Prop) (A : Option Addr) (n : Nat) (ops : List S.O) : Prop :=
  ops.length = n ∧ ∃ cells, Reads W W.heap.size 4 A n cells ∧ (∀ ad, A = some ad → 0 < n → (∃ ga, ad = ⟨ga, 0, none⟩) ∧ ¬ F ad.block) ∧ ∀ k o, ops[k]? = some o → ∃ Ab cb, cells[k * 4]? = some (.int .i64 (o.kind : Int)) ∧ cells[k * 4 + 1]? = some (.slice Ab o.b.length cb) ∧ cells[k * 4 + 2]? = some (.int .u64 (o.name.toNat : Int)) ∧ cells[k * 4 + 3]? = some (.int .i64 (o.num : Int)) ∧
    Reads W W.heap.size 1 Ab o.b.length (bv o.b) ∧ ∀ ad, Ab = some ad → ad.block < W.heap.size ∧ ¬ F ad.block
theorem OpsAt.weaken {W : World} {F G : Nat → Prop} {A : Option Addr} {n : Nat} {ops : List S.O} (h : OpsAt W F A n ops) (hG : ∀ i, G i → F i) : OpsAt W G A n ops := by
  obtain ⟨h0, cells, h1, h2, h3⟩ := h
  refine ⟨h0, cells, h1, fun ad e hn => ⟨(h2 ad e hn).1, fun hg => (h2 ad e hn).2 (hG _ hg)⟩, fun k o ho => ?_⟩
  obtain ⟨Ab, cb, c0, c1, c2, c3, h4, h5⟩ := h3 k o ho
  exact ⟨Ab, cb, c0, c1, c2, c3, h4, fun ad e => ⟨(h5 ad e).1, fun hg => (h5 ad e).2 (hG _ hg)⟩⟩
theorem OpsAt.turn {W W' : World} {F G : Nat → Prop} {A : Option Addr} {n : Nat} {ops : List S.O} (h : OpsAt W F A n ops) (ht : Turn F W W') (hG : ∀ i, G i → F i ∨ W.heap.size ≤ i) : OpsAt W' G A n ops := by
  obtain ⟨h0, cells, h1, h2, h3⟩ := h
  by_cases hn : n = 0
  · subst hn
    refine ⟨h0, cells, ⟨h1.1, fun h => absurd h (by omega)⟩, fun ad e h => absurd h (by omega), fun k o ho => ?_⟩
    have := (List.getElem?_eq_some_iff.1 ho).1
    omega
  have hn : 0 < n := by omega
  obtain ⟨ad0, e0, hb0, _⟩ := h1.2 hn
  refine ⟨h0, cells, (ht.reads h1 (Nat.le_refl _) (fun ad e => (h2 ad e hn).2)).more ht.size, fun ad e _ => ⟨(h2 ad e hn).1, fun hg => ?_⟩, fun k o ho => ?_⟩
  · rcases hG _ hg with h4 | h4
    · exact (h2 ad e hn).2 h4
    · rw [e0] at e; injection e with e; subst e; omega
  · obtain ⟨Ab, cb, c0, c1, c2, c3, h4, h5⟩ := h3 k o ho
    refine ⟨Ab, cb, c0, c1, c2, c3, (ht.reads h4 (Nat.le_refl _) (fun ad e => (h5 ad e).2)).more ht.size, fun ad e => ⟨Nat.lt_of_lt_of_le (h5 ad e).1 ht.size, fun hg => ?_⟩⟩
    rcases hG _ hg with h6 | h6
    · exact (h5 ad e).2 h6
    · have := (h5 ad e).1; omega
theorem Reads.newS (w : World) (cs : List Value) (t : TypeId) (size n : Nat) (hn : cs.length = n * size) : Reads (w.alloc (.cells cs.toArray t)) (w.alloc (.cells cs.toArray t)).heap.size size (some ⟨w.heap.size, 0, none⟩) n cs := by
  refine ⟨hn, fun _ => ⟨_, rfl, by simp, fun j u hu => ?_⟩⟩
  have e1 : (⟨w.heap.size, 0, none⟩ : Addr).add j = ⟨w.heap.size, j, none⟩ := by
    unfold Addr.add
    split <;> simp_all
  rw [e1]
  have := World.cell?_alloc_mark w cs.toArray t (0, 0) j
  rw [this]
  simpa using hu
theorem reads_but {W W' : World} {B n g : Nat} {A : Option Addr} {xs : List Value} (h : Reads W B 1 A n xs) (hg : W.grownBy W' (some g)) (hA : ∀ ad, A = some ad → ad.block ≠ g) (hB : B ≤ W.heap.size := by exact Nat.le_refl _) : Reads W' B 1 A n xs :=
  ⟨h.1, fun hn => by
    obtain ⟨ad, e, hb, hc⟩ := h.2 hn
    refine ⟨ad, e, hb, fun j u hu => ?_⟩
    rw [← hc j u hu]
    refine World.cell?_of_block ?_
    rw [block_of_add]
    exact hg.block _ (by omega) (fun e2 => hA ad e (by injection e2))⟩
/-- The k-th operation's cells. -/
theorem op_at {W : World} {F : Nat → Prop} {A : Option Addr} {n k : Nat} {ops : List S.O} (h : OpsAt W F A n ops) (hk : k < n) :
    ∃ ga o Ab cb, A = some ⟨ga, 0, none⟩ ∧ ¬ F ga ∧ ga < W.heap.size ∧ ops[k]? = some o ∧ W.cell? ⟨ga, k * 4, none⟩ = some (.int .i64 (o.kind : Int)) ∧ W.cell? ⟨ga, k * 4 + 1, none⟩ = some (.slice Ab o.b.length cb) ∧ W.cell? ⟨ga, k * 4 + 2, none⟩ = some (.int .u64 (o.name.toNat : Int)) ∧ W.cell? ⟨ga, k * 4 + 3, none⟩ = some (.int .i64 (o.num : Int)) ∧
      Reads W W.heap.size 1 Ab o.b.length (bv o.b) ∧ ∀ ad, Ab = some ad → ad.block < W.heap.size ∧ ¬ F ad.block := by
  obtain ⟨h0, cells, h1, h2, h3⟩ := h
  obtain ⟨ad, e, hb, hc⟩ := h1.2 (by omega)
  obtain ⟨⟨ga, rfl⟩, hf⟩ := h2 ad e (by omega)
  obtain ⟨o, ho⟩ : ∃ o, ops[k]? = some o := ⟨_, List.getElem?_eq_getElem (by rw [h0]; exact hk)⟩
  obtain ⟨Ab, cb, c0, c1, c2, c3, h4, h5⟩ := h3 k o ho
  have ha : ∀ j, (⟨ga, 0, none⟩ : Addr).add j = ⟨ga, j, none⟩ := fun j => by unfold Addr.add; split <;> simp_all
  have d0 := hc _ _ c0
  have d1 := hc _ _ c1
  have d2 := hc _ _ c2
  have d3 := hc _ _ c3
  rw [ha] at d0 d1 d2 d3
  exact ⟨ga, o, Ab, cb, e, hf, hb, ho, d0, d1, d2, d3, h4, h5⟩
/-- The kind of the operation with the number j. -/
def okind (j : Nat) : Nat := if j < 2 then 0 else if j < 4 then 1 else 2
theorem okind_le (j : Nat) : okind j ≤ 2 := by unfold okind; split <;> (try split) <;> omega
theorem okind_cell (w : World) (T : TypeId) (j : Nat) (hj : j < 5) : (w.alloc (.cells #[.int .i64 0, .int .i64 0, .int .i64 1, .int .i64 1, .int .i64 2] T)).cell? ⟨w.heap.size, j, none⟩ = some (.int .i64 (okind j : Int)) := by
  rw [World.cell?_alloc_mark]
  match j, hj with
  | 0, _ => rfl
  | 1, _ => rfl
  | 2, _ => rfl
  | 3, _ => rfl
  | 4, _ => rfl
set_option maxRecDepth 100000 in
set_option maxHeartbeats 4000000 in
theorem ops_any (A : Option Addr) (len cap : Nat) (ks : List Int) (hkl : ks.length = len) (hcap : len ≤ 9223372036854775807) (hwf : ∀ n ∈ ks, -9223372036854775808 ≤ n ∧ n ≤ 9223372036854775807) (w : World) (hrd : Reads w w.heap.size 1 A len (iv ks)) :
    Calls Try.prog 21 #[.slice A len cap] w fun e w' => ∃ A' n c ops, e = .returned (.slice A' n c) ∧ n ≤ c ∧ n ≤ 16 ∧ OpsAt w' (fun i => i < w.heap.size) A' n ops ∧ (∀ o ∈ ops, S.O.Ok o) ∧ Below w.heap.size w w' := by
  obtain ⟨i0, hi, hz0, hz1, hz2⟩ := info_parts infoOp
  have HWF := Lib.hid hwf
  clear hwf hkl
  go_enter Try.func21, Try.ntmps21
  go_wp2_with fail
  go_loopw [3, 4] (fun v ix wr => ∃ (i : Nat) (cells : List Value) (ops : List S.O), i ≤ len ∧ i ≤ 16 ∧ ix = .int .i64 (i : Int) ∧ wr.ownsRow w.heap.size 48 4 v i cells ∧ OpRow wr w.heap.size v.ownBlock cells ops ∧ Hid (ops.length = i ∧ ∀ o ∈ ops, S.O.Ok o) ∧ Below w.heap.size w wr) (fun _ ix _ => 16 - (intOf ix).toNat)
  case atStart => exact ⟨0, [], [], Nat.zero_le _, Nat.zero_le _, rfl, World.ownsRow_nil _ _ _ _, OpRow.nil _ _ _, ⟨rfl, by simp⟩, Below.refl _ _⟩
  case round =>
    obtain ⟨i, cells, ops, hi1, hi16, rfl, hown, hrow, hst, hB⟩ := hrel
    obtain ⟨v, rfl⟩ : ∃ x, x = u3 := ⟨_, rfl⟩
    by_cases hlt : i < len ∧ i < 16
    · obtain ⟨hl1, hl2⟩ := hlt
      obtain ⟨ad, u, rfl, _, hu, hcell⟩ := (hrd.below hB).at_ hl1
      obtain ⟨x, hx, rfl⟩ := iv_at hu
      have hxb := HWF.out x (List.mem_of_getElem? hx)
      have hab := arN_bd x 1000000 (by omega)
      obtain ⟨kn, hkn⟩ := Int.eq_ofNat_of_zero_le hab.1
      have hknl : kn < 1000000 := by omega
      have hca := fun W => around_nat x 1000000 kn hxb.1 hxb.2 (by omega) (by omega) hkn W
      clear hab hkn hxb hx hu
      obtain ⟨j, hj⟩ : ∃ j, kn % 5 = j := ⟨_, rfl⟩
      obtain ⟨p, hp⟩ : ∃ p, kn / 5 % 4 = p := ⟨_, rfl⟩
      obtain ⟨q, hq⟩ : ∃ q, kn / 20 % 9 = q := ⟨_, rfl⟩
      have hj5 : j < 5 := by omega
      have hp4 : p < 4 := by omega
      have hq9 : q ≤ 8 := by omega
      have hji : (kn : Int) % 5 = (j : Int) := by omega
      have hpi : (kn : Int) / 5 % 4 = (p : Int) := by omega
      have hqi : (kn : Int) / 20 % 9 = (q : Int) := by omega
      have hj1 : (0 : Int) ≤ (j : Int) := by omega
      have hj2 : (j : Int) < 5 := by omega
      have hsz := hB.size
      have hkc := okind_cell wr 3 j hj5
      have hkl2 := okind_le j
      obtain ⟨kd, hkd⟩ : ∃ kd, okind j = kd := ⟨_, rfl⟩
      rw [hkd] at hkc hkl2
      have hi1' : (0 : Int) ≤ (i : Int) := by omega
      have hi2' : (i : Int) < (len : Int) := by omega
      have hi3' : (i : Int) < 16 := by omega
      clear hj hp hq hkd
      obtain ⟨wo, rfl⟩ : ∃ x, x = wr := ⟨_, rfl⟩
      go_wp2_with fail
      refine (hca _).mono ?_
      rintro e wz ⟨rfl, rfl⟩
      clear hca
      go_wp2_with fail
      obtain ⟨w5, hw5⟩ : ∃ x, (wo.alloc (.cells #[.int .i64 0, .int .i64 0, .int .i64 1, .int .i64 1, .int .i64 2] 3)).alloc (.cells #[.int .i64 (kd : Int), .slice none 0 0, .int .u64 (p : Int), .int .i64 (q : Int)] 48) = x := ⟨_, rfl⟩
      have hd5 : Below wo.heap.size wo w5 := by rw [← hw5]; exact ((Below.refl _ _).alloc (Nat.le_refl _) _).alloc (by simp) _
      have hf5 : Four w5 (wo.heap.size + 1) 48 (.int .i64 (kd : Int)) (.slice none 0 0) (.int .u64 (p : Int)) (.int .i64 (q : Int)) := by
        have := Four.new (wo.alloc (.cells #[.int .i64 0, .int .i64 0, .int .i64 1, .int .i64 1, .int .i64 2] 3)) 48 (.int .i64 (kd : Int)) (.slice none 0 0) (.int .u64 (p : Int)) (.int .i64 (q : Int))
        rw [World.size_alloc, hw5] at this; exact this
      have hs5 : w5.heap.size = wo.heap.size + 2 := by rw [← hw5]; simp
      have hby := obytes_any q hq9 w5
      have hbl := S.bytes_len q
      have hql := S.sq_le hq9
      obtain ⟨m, hm⟩ : ∃ m, q * q = m := ⟨_, rfl⟩
      rw [hm] at hby hbl hql
      have HBL := Lib.hid hbl
      rw [hw5]
      clear hw5 hm hbl hkc
      refine hby.mono ?_
      rintro e w6 ⟨A6, c6, rfl, hc6, hown6, hd6⟩
      have hf6 := hf5.below hd6
      have hb6 := blater hd5 (Nat.le_refl _) hd6
      have hs6 := hd6.size
      have hown0 := own_below hown hb6
      have hA6 := own_from hown6
      have e0 := hf6.cell0
      have e1 := hf6.cell1
      have e2 := hf6.cell2
      have e3 := hf6.cell3
      have z1 := hf6.frozen 1
      have z2 := hf6.frozen 2
      clear hby hf5 hd5 hd6
      have hne : some (wo.heap.size + 1) ≠ v.ownBlock := fun e => by have := (own_from hown _ e.symm).2; omega
      have hrow6 := Reads.of_own hown6
      have hk1 := set1_grown w6 ⟨wo.heap.size + 1, 1, none⟩ (.slice A6 m c6)
      have hb7 := hb6.setCell (p := ⟨wo.heap.size + 1, 1, none⟩) (by show wo.heap.size ≤ wo.heap.size + 1; omega) (.slice A6 m c6)
      have hs7 : (w6.setCell ⟨wo.heap.size + 1, 1, none⟩ (.slice A6 m c6)).heap.size = w6.heap.size := by simp [World.setCell]
      have hr7 : Reads (w6.setCell ⟨wo.heap.size + 1, 1, none⟩ (.slice A6 m c6)) (w6.setCell ⟨wo.heap.size + 1, 1, none⟩ (.slice A6 m c6)).heap.size 1 A6 m (bv (S.bytes q)) := by
        rw [hs7]
        exact reads_but hrow6 hk1 (fun ad e => by subst e; have := (hA6 ad.block rfl).1; show ad.block ≠ wo.heap.size + 1; omega)
      by_cases h49 : kn / 180 % 50 = 49
      · have hq49 : ((kn : Int) / 180 % 50 == 49) = true := by rw [beq_iff_eq]; omega
        obtain ⟨y, hy⟩ : ∃ y : UInt64, y.toNat = 9223372036854775808 + kn := ⟨UInt64.ofNat (9223372036854775808 + kn), UInt64.toNat_ofNat_of_lt' (by show _ < 18446744073709551616; omega)⟩
        have hyi : (9223372036854775808 : Int) + (kn : Int) = (y.toNat : Int) := by omega
        have hyl := y.toNat_lt
        have hyw : IntKind.u64.wrap (y.toNat : Int) = (y.toNat : Int) := by rw [IntKind.wrap_u64]; omega
        clear hy h49
        have hk2 := set1_grown (w6.setCell ⟨wo.heap.size + 1, 1, none⟩ (.slice A6 m c6)) ⟨wo.heap.size + 1, 2, none⟩ (.int .u64 (y.toNat : Int))
        have hb8 := hb7.setCell (p := ⟨wo.heap.size + 1, 2, none⟩) (by show wo.heap.size ≤ wo.heap.size + 1; omega) (.int .u64 (y.toNat : Int))
        have hs8 : ((w6.setCell ⟨wo.heap.size + 1, 1, none⟩ (.slice A6 m c6)).setCell ⟨wo.heap.size + 1, 2, none⟩ (.int .u64 (y.toNat : Int))).heap.size = w6.heap.size := by simp [World.setCell]
        have hr8 : Reads ((w6.setCell ⟨wo.heap.size + 1, 1, none⟩ (.slice A6 m c6)).setCell ⟨wo.heap.size + 1, 2, none⟩ (.int .u64 (y.toNat : Int))) ((w6.setCell ⟨wo.heap.size + 1, 1, none⟩ (.slice A6 m c6)).setCell ⟨wo.heap.size + 1, 2, none⟩ (.int .u64 (y.toNat : Int))).heap.size 1 A6 m (bv (S.bytes q)) := by
          have := reads_but hr7 hk2 (fun ad e => by subst e; have := (hA6 ad.block rfl).1; show ad.block ≠ wo.heap.size + 1; omega)
          rw [hs8]; rw [hs7] at this; exact this
        obtain ⟨W8, hW8⟩ : ∃ x, (w6.setCell ⟨wo.heap.size + 1, 1, none⟩ (.slice A6 m c6)).setCell ⟨wo.heap.size + 1, 2, none⟩ (.int .u64 (y.toNat : Int)) = x := ⟨_, rfl⟩
        rw [hW8] at hb8 hs8 hr8
        have hownW := own_below hown hb8
        have hd9 : Below W8.heap.size W8 (W8.alloc (.cells [.int .i64 (kd : Int), .slice A6 m c6, .int .u64 (y.toNat : Int), .int .i64 (q : Int)].toArray 48)) := (Below.refl _ _).alloc (Nat.le_refl _) _
        have hownX := own_below hownW hd9
        have hrW := Reads.newS W8 [.int .i64 (kd : Int), .slice A6 m c6, .int .u64 (y.toNat : Int), .int .i64 (q : Int)] 48 4 1 rfl
        have hbs : w.heap.size ≤ (W8.alloc (.cells [.int .i64 (kd : Int), .slice A6 m c6, .int .u64 (y.toNat : Int), .int .i64 (q : Int)].toArray 48)).heap.size := by rw [World.size_alloc]; omega
        have HW8 := Lib.hid hW8
        rw [hs8] at hrW
        rw [← hW8] at hownX hrW hbs
        clear hW8
        go_wp2_with (at_builtin; refine wpList_append_any _ rfl _ _ 44 rfl w.heap.size 48 i0 (.agg #[.int .i64 0, .slice none 0 0, .int .u64 0, .int .i64 0]) 4 48 Try.underlying44 hi hz0 hz1 hz2 rfl (by decide) _ _ _ rfl hownX _ _ 1 1 _ rfl hrW (by simp [Value.oneCell']) (by unfold maxLen; omega) (by omega) hbs ?_; intro v' w9 hown' hgrow hat)
        go_roundw
        case rel =>
          rw [HW8.out] at hgrow hat
          have hgrow : (W8.alloc (.cells [.int .i64 (kd : Int), .slice A6 m c6, .int .u64 (y.toNat : Int), .int .i64 (q : Int)].toArray 48)).grownBy w9 v.ownBlock := hgrow
          have hbX := blater hb8 (Nat.le_refl _) hd9
          have hr9 := hrow.snoc (v' := v') hbX ⟨kd, S.bytes q, y, q⟩ A6 m c6 HBL.out (hr8.later hd9) (fun ad e => by subst e; have := hA6 ad.block rfl; refine ⟨by omega, by simp; omega, fun e => by have := (own_from hown _ e.symm).2; omega⟩) hgrow hat
          have hs9 := hgrow.size
          exact ⟨i + 1, _, ops ++ [⟨kd, S.bytes q, y, q⟩], by omega, by omega, by go_num, hown', hr9, ⟨by simp [hst.out.1], fun o ho => by
            rcases List.mem_append.1 ho with h | h
            · exact hst.out.2 o h
            · obtain rfl : o = ⟨kd, S.bytes q, y, q⟩ := by simpa using h
              exact ⟨hkl2, hq9, rfl⟩⟩, (blater hB (Nat.le_refl _) hbX).grown hgrow (by simp; omega) (fun k e => (own_from hown k e).1)⟩
        case measure => simp [intOf]; omega
      · have hq49 : ((kn : Int) / 180 % 50 == 49) = false := by rw [beq_eq_false_iff_ne]; omega
        obtain ⟨y, hy⟩ : ∃ y : UInt64, y.toNat = p := ⟨UInt64.ofNat p, UInt64.toNat_ofNat_of_lt' (by show _ < 18446744073709551616; omega)⟩
        clear h49
        obtain ⟨W8, hW8⟩ : ∃ x, w6.setCell ⟨wo.heap.size + 1, 1, none⟩ (.slice A6 m c6) = x := ⟨_, rfl⟩
        have hb8 := hb7
        have hs8 := hs7
        have hr8 := hr7
        rw [hW8] at hb8 hs8 hr8
        have hownW := own_below hown hb8
        have hd9 : Below W8.heap.size W8 (W8.alloc (.cells [.int .i64 (kd : Int), .slice A6 m c6, .int .u64 (p : Int), .int .i64 (q : Int)].toArray 48)) := (Below.refl _ _).alloc (Nat.le_refl _) _
        have hownX := own_below hownW hd9
        have hrW := Reads.newS W8 [.int .i64 (kd : Int), .slice A6 m c6, .int .u64 (p : Int), .int .i64 (q : Int)] 48 4 1 rfl
        have hbs : w.heap.size ≤ (W8.alloc (.cells [.int .i64 (kd : Int), .slice A6 m c6, .int .u64 (p : Int), .int .i64 (q : Int)].toArray 48)).heap.size := by rw [World.size_alloc]; omega
        have HW8 := Lib.hid hW8
        have HY := Lib.hid hy
        rw [hs8] at hrW
        rw [← hW8] at hownX hrW hbs
        clear hW8 hy
        go_wp2_with (at_builtin; refine wpList_append_any _ rfl _ _ 44 rfl w.heap.size 48 i0 (.agg #[.int .i64 0, .slice none 0 0, .int .u64 0, .int .i64 0]) 4 48 Try.underlying44 hi hz0 hz1 hz2 rfl (by decide) _ _ _ rfl hownX _ _ 1 1 _ rfl hrW (by simp [Value.oneCell']) (by unfold maxLen; omega) (by omega) hbs ?_; intro v' w9 hown' hgrow hat)
        go_roundw
        case rel =>
          rw [HW8.out] at hgrow hat
          have hgrow : (W8.alloc (.cells [.int .i64 (kd : Int), .slice A6 m c6, .int .u64 (p : Int), .int .i64 (q : Int)].toArray 48)).grownBy w9 v.ownBlock := hgrow
          have hbX := blater hb8 (Nat.le_refl _) hd9
          have hr9 := hrow.snoc (v' := v') hbX ⟨kd, S.bytes q, y, q⟩ A6 m c6 HBL.out (hr8.later hd9) (fun ad e => by subst e; have := hA6 ad.block rfl; refine ⟨by omega, by simp; omega, fun e => by have := (own_from hown _ e.symm).2; omega⟩) hgrow hat
          have hr9 : OpRow w9 w.heap.size v'.ownBlock (cells ++ [.int .i64 (kd : Int), .slice A6 m c6, .int .u64 (y.toNat : Int), .int .i64 (q : Int)]) _ := hr9
          rw [HY.out] at hr9
          have hs9 := hgrow.size
          exact ⟨i + 1, _, ops ++ [⟨kd, S.bytes q, y, q⟩], by omega, by omega, by go_num, hown', hr9, ⟨by simp [hst.out.1], fun o ho => by
            rcases List.mem_append.1 ho with h | h
            · exact hst.out.2 o h
            · obtain rfl : o = ⟨kd, S.bytes q, y, q⟩ := by simpa using h
              exact ⟨hkl2, hq9, rfl⟩⟩, (blater hB (Nat.le_refl _) hbX).grown hgrow (by simp; omega) (fun k e => (own_from hown k e).1)⟩
        case measure => simp [intOf]; omega
    · have hge : len ≤ i ∨ 16 ≤ i := by omega
      have hln := hst.out.1
      have hok := Lib.hid hst.out.2
      have HLN := Lib.hid hln
      clear hst hln hlt
      by_cases hl3 : i < len
      all_goals
        go_wp2_with fail
        go_ret
        obtain ⟨A', c', rfl, hc', hr', hown'⟩ := own_reads hown
        have hfr := own_from hown
        refine ⟨A', i, c', ops, rfl, hc', hi16, ⟨HLN.out, cells, hr', fun ad e hn => ?_, fun k o ho => ?_⟩, hok.out, hB⟩
        · obtain ⟨ga, cap', hv', _⟩ := hown'.form hn
          have hga : A' = some ⟨ga, 0, none⟩ := by injection hv'
          have hb := (hfr ad.block (by rw [e]; rfl)).1
          rw [hga] at e; injection e with e
          exact ⟨⟨ga, e.symm⟩, by show ¬ (ad.block < w.heap.size); omega⟩
        · obtain ⟨Ab, cb, c0, c1, c2, c3, h4, h5⟩ := hrow.2 k o ho
          exact ⟨Ab, cb, c0, c1, c2, c3, h4, fun ad e => ⟨(h5 ad e).2.1, by have := (h5 ad e).1; show ¬ (ad.block < w.heap.size); omega⟩⟩
end Go.Proofs.Ytfanhbemmjcomaa
