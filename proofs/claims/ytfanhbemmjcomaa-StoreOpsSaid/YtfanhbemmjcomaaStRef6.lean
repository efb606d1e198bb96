/- The reference's add. -/
import Derived.Test.YtfanhbemmjcomaaStRef5
namespace Go.Proofs.Ytfanhbemmjcomaa
open Go.RowKit
set_option linter.unusedVariables false
theorem infoR : (Try.prog.info? 71).map (fun i => (i.zero, i.size, i.bytes)) = some (some (.agg #[.bool false, .slice none 0 0, .int .u64 0, .int .u64 0]), 4, 48) := by kernel_rfl
/-- What lies apart of the row that grew reads as before. -/
theorem reads_apart {W W' : World} {size n : Nat} {ga : Nat} {xs : List Value} {row : Option Nat} (h : Reads W W.heap.size size (some ⟨ga, 0, none⟩) n xs) (hg : W.grownBy W' row) (hne : ¬ some ga = row) : Reads W' W'.heap.size size (some ⟨ga, 0, none⟩) n xs :=
  ⟨h.1, fun hn => by
    obtain ⟨ad, e, hb, hc⟩ := h.2 hn
    injection e with e; subst e
    refine ⟨_, rfl, Nat.lt_of_lt_of_le hb hg.size, fun j u hu => ?_⟩
    rw [← hc j u hu]
    refine World.cell?_of_block ?_
    rw [block_of_add]
    exact hg.block _ hb hne⟩
theorem Reads.later0 {W W' : World} {B size n : Nat} {A : Option Addr} {xs : List Value} (h : Reads W W.heap.size size A n xs) (hb : Below W.heap.size W W') : Reads W' W'.heap.size size A n xs := h.later hb
theorem rec_one {r : S.R} {L : List S.R} {n : Nat} {cells : List Value} (hl : L.length = n) (hc : cells.length = n * 4)
    (h : ∀ k r, L[k]? = some r → ∃ Ab cb, cells[k * 4]? = some (.bool r.ob) ∧ cells[k * 4 + 1]? = some (.slice Ab r.bs.length cb) ∧ cells[k * 4 + 2]? = some (.int .u64 (r.nm.toNat : Int)) ∧ cells[k * 4 + 3]? = some (.int .u64 (r.ky.toNat : Int))) : ∀ u ∈ cells, u.oneCell' = true := by
  intro u hu
  obtain ⟨j, hj⟩ := List.getElem?_of_mem hu
  have hjl := (List.getElem?_eq_some_iff.1 hj).1
  obtain ⟨o, ho⟩ : ∃ o, L[j / 4]? = some o := ⟨_, List.getElem?_eq_getElem (by omega)⟩
  obtain ⟨Ab, cb, h0, h1, h2, h3⟩ := h _ o ho
  have e : j = j / 4 * 4 ∨ j = j / 4 * 4 + 1 ∨ j = j / 4 * 4 + 2 ∨ j = j / 4 * 4 + 3 := by omega
  rcases e with e | e | e | e
  · rw [← e, hj] at h0; injection h0 with h0; rw [h0]; rfl
  · rw [← e, hj] at h1; injection h1 with h1; rw [h1]; rfl
  · rw [← e, hj] at h2; injection h2 with h2; rw [h2]; rfl
  · rw [← e, hj] at h3; injection h3 with h3; rw [h3]; rfl

/-- A store of the reference, as a result through a cell. -/
theorem res_S {fn : Func} {p : Tmp} (h : fn.results = #[.cell p 43]) (tmps : Array Value) (w : World) (g : Nat) (a b : Value) (hp : tmps.getD p undef = .pointer (some ⟨g, 0, none⟩)) (hg : Two w g 43 a b) :
    (results fn tmps).run Try.prog w = .ok (.agg #[a, b]) w :=
  results_cell_row h tmps w g _ _ _ _ hp hg Try.underlying43 rfl (by kernel_rfl)
theorem res_S2 {fn : Func} {p u : Tmp} (h : fn.results = #[.cell p 43, .tmp u]) (tmps : Array Value) (w : World) (g : Nat) (a b : Value) (hp : tmps.getD p undef = .pointer (some ⟨g, 0, none⟩)) (hg : Two w g 43 a b) :
    (results fn tmps).run Try.prog w = .ok (.tuple #[.agg #[a, b], tmps.getD u undef]) w := by
  have hp' : tmps[p]?.getD undef = .pointer (some ⟨g, 0, none⟩) := by simpa using hp
  simp [results, h, hp', asAddr, run_loadVar_row w g _ _ _ _ _ hg Try.underlying43 rfl (by kernel_rfl)]
theorem res_S3 {fn : Func} {p u v : Tmp} (h : fn.results = #[.cell p 43, .tmp u, .tmp v]) (tmps : Array Value) (w : World) (g : Nat) (a b : Value) (hp : tmps.getD p undef = .pointer (some ⟨g, 0, none⟩)) (hg : Two w g 43 a b) :
    (results fn tmps).run Try.prog w = .ok (.tuple #[.agg #[a, b], tmps.getD u undef, tmps.getD v undef]) w := by
  have hp' : tmps[p]?.getD undef = .pointer (some ⟨g, 0, none⟩) := by simpa using hp
  simp [results, h, hp', asAddr, run_loadVar_row w g _ _ _ _ _ hg Try.underlying43 rfl (by kernel_rfl)]
theorem two_turn {w : World} {g : Nat} (u v : Value) : Turn (fun i => i = g) w ((w.setCell ⟨g, 0, none⟩ u).setCell ⟨g, 1, none⟩ v) :=
  (Turn.of_grown (set1_grown w ⟨g, 0, none⟩ u) (fun i e => .inl (by injection e with e; exact e.symm))).trans (Turn.of_grown (F := fun i => i = g) (set1_grown _ ⟨g, 1, none⟩ v) (fun i e => .inl (by injection e with e; exact e.symm))) (fun i hi => .inl hi)
/-- The cells of the boxed record. -/
def AddS (g : Nat) (ob : Bool) (kl : Nat) (nm ky : UInt64) (Ab : Option Addr) (cb : Nat) (W : World) : Prop :=
  W.cell? ⟨g + 1, 0, none⟩ = some (.bool ob) ∧ W.cell? ⟨g + 1, 1, none⟩ = some (.slice Ab kl cb) ∧ W.cell? ⟨g + 1, 2, none⟩ = some (.int .u64 (nm.toNat : Int)) ∧ W.cell? ⟨g + 1, 3, none⟩ = some (.int .u64 (ky.toNat : Int))
section
variable {g : Nat} {ob : Bool} {kl : Nat} {nm ky : UInt64} {Ab : Option Addr} {cb : Nat} {W W' : World}
theorem addS {B : Nat} (hb : Below B W W') (hB : B = W.heap.size) (h : AddS g ob kl nm ky Ab cb W) : AddS g ob kl nm ky Ab cb W' := by
  subst hB
  exact ⟨(hb.cell (cell_lt h.1)).trans h.1, (hb.cell (cell_lt h.2.1)).trans h.2.1, (hb.cell (cell_lt h.2.2.1)).trans h.2.2.1, (hb.cell (cell_lt h.2.2.2)).trans h.2.2.2⟩
theorem AddS.kept (h : AddS g ob kl nm ky Ab cb W) (hg : W.grownBy W' (some g)) : AddS g ob kl nm ky Ab cb W' := by
  have hb : W'.heap[g + 1]? = W.heap[g + 1]? := hg.block _ (cell_lt h.1) (fun e => by injection e with e; omega)
  exact ⟨(World.cell?_of_block hb).trans h.1, (World.cell?_of_block hb).trans h.2.1, (World.cell?_of_block hb).trans h.2.2.1, (World.cell?_of_block hb).trans h.2.2.2⟩
end
set_option maxRecDepth 10000 in
set_option maxHeartbeats 2000000 in
theorem refAdd_any (F : Nat → Prop) (A : Option Addr) (n cap : Nat) (L : List S.R) (sc : Int) (r : S.R) (ob : Bool) (kl : Nat) (nm ky : UInt64) (hob : r.ob = ob) (hkl : r.bs.length = kl) (hnm : r.nm = nm) (hky : r.ky = ky) (Ab : Option Addr) (cb : Nat) (hlim : kl ≤ 65536) (hn2 : n < 200) (hcap : n ≤ cap) (w : World) (h : RefAt w F A n L) (hr : Reads w w.heap.size 1 Ab kl (bv r.bs)) (hA : ∀ ad, Ab = some ad → ad.block < w.heap.size ∧ ¬ F ad.block) (hF : ∀ i, F i → i < w.heap.size) :
    Calls Try.prog 45 #[.agg #[.slice A n cap, .int .i64 sc], .agg #[.bool ob, .slice Ab kl cb, .int .u64 (nm.toNat : Int), .int .u64 (ky.toNat : Int)]] w fun e w' => ∃ A' c', e = .returned (.agg #[.slice A' (n + 1) c', .int .i64 sc]) ∧ n + 1 ≤ c' ∧ RefAt w' F A' (n + 1) (L ++ [r]) ∧ Below w.heap.size w w' := by
  obtain ⟨i0, hi, hz0, hz1, hz2⟩ := info_parts infoR
  obtain ⟨w1, hw1⟩ : ∃ x, w.alloc (.cells #[.slice A n cap, .int .i64 sc] 43) = x := ⟨_, rfl⟩
  obtain ⟨w2, hw2⟩ : ∃ x, w1.alloc (.cells #[.bool ob, .slice Ab kl cb, .int .u64 (nm.toNat : Int), .int .u64 (ky.toNat : Int)] 71) = x := ⟨_, rfl⟩
  obtain ⟨w3, hw3⟩ : ∃ x, w2.alloc (.cells #[.slice none 0 0, .int .i64 0] 43) = x := ⟨_, rfl⟩
  have d1 : Below w.heap.size w w1 := by rw [← hw1]; exact (Below.refl _ _).alloc (Nat.le_refl _) _
  have d2 : Below w1.heap.size w1 w2 := by rw [← hw2]; exact (Below.refl _ _).alloc (Nat.le_refl _) _
  have d3 : Below w2.heap.size w2 w3 := by rw [← hw3]; exact (Below.refl _ _).alloc (Nat.le_refl _) _
  have s1 : w1.heap.size = w.heap.size + 1 := by rw [← hw1]; simp
  have s2 : w2.heap.size = w.heap.size + 1 + 1 := by rw [← hw2, World.size_alloc, s1]
  have s3 : w3.heap.size = w.heap.size + 1 + 1 + 1 := by rw [← hw3, World.size_alloc, s2]
  have hd3 := blater (blater d1 (Nat.le_refl _) d2) (Nat.le_refl _) d3
  have htw := Two.new w 43 (.slice A n cap) (.int .i64 sc)
  rw [hw1] at htw
  have hfo := Four.new w1 71 (.bool ob) (.slice Ab kl cb) (.int .u64 (nm.toNat : Int)) (.int .u64 (ky.toNat : Int))
  rw [hw2, s1] at hfo
  have htr := Two.new w2 43 (.slice none 0 0) (.int .i64 0)
  rw [hw3, s2] at htr
  have htw3 := (htw.below d2).below d3
  have hfo3 := hfo.below d3
  have t0 := htw3.cell0
  have c0 := hfo3.cell0
  have c1 := hfo3.cell1
  have c2 := hfo3.cell2
  have c3 := hfo3.cell3
  have hB3 : Below w3.heap.size w3 w3.drew := Below.drew (Below.refl w3.heap.size w3)
  obtain ⟨hL, cells, hcl0, hform, hrec⟩ := h
  have hcl := hcl0.later hd3
  have s0 : AddS w.heap.size ob kl nm ky Ab cb w3 := ⟨c0, c1, c2, c3⟩
  have hS3 := addS hB3 rfl s0
  have hone := rec_one (r := r) hL hcl.1 (fun k r e => by obtain ⟨Ab, cb, a0, a1, a2, a3, _⟩ := hrec k r e; exact ⟨Ab, cb, a0, a1, a2, a3⟩)
  have hone4 : ∀ u ∈ [Value.bool ob, .slice Ab kl cb, .int .u64 (nm.toNat : Int), .int .u64 (ky.toNat : Int)], u.oneCell' = true := by simp [Value.oneCell']
  have hend : ∀ (w9 w10 W : World) A9 c9, w9.ownsRow w3.heap.size 71 4 (.slice A9 (n + 1) c9) (n + 1) (cells ++ [.bool ob, .slice Ab kl cb, .int .u64 (nm.toNat : Int), .int .u64 (ky.toNat : Int)]) → Below w3.heap.size w3 w9 → w9.grownBy w10 (some w.heap.size) → Turn (fun i => i = w.heap.size + 1 + 1) w10 W → n + 1 ≤ c9 ∧ RefAt W F A9 (n + 1) (L ++ [r]) ∧ Below w.heap.size w W := by
    intro w9 w10 W A9 c9 own9 B9 g10 t10
    have T : Turn (fun i => i = w.heap.size ∨ i = w.heap.size + 1 + 1) w9 W := (Turn.of_grown (F := fun i => i = w.heap.size ∨ i = w.heap.size + 1 + 1) g10 (fun i e => .inl (.inl (by injection e with e; exact e.symm)))).trans t10 (fun i hi => .inl (.inr hi))
    have hs9 := B9.size
    have BW : Below w.heap.size w W := (blater hd3 (Nat.le_refl _) B9).trans (T.below (by omega) (fun i hi => by rcases hi with hi | hi <;> omega))
    have fr9 := own_from own9
    obtain ⟨ga, cap', hv', _⟩ := own9.form (by omega)
    have hga : A9 = some ⟨ga, 0, none⟩ := by injection hv'
    have hgb := fr9 ga (by rw [hga]; rfl)
    obtain ⟨A', c', e, hc', rd9, _⟩ := own_reads own9
    injection e with e1 e2 e3
    subst e1 e3
    have rdW := (T.reads rd9 (Nat.le_refl _) (fun ad e => by subst e; have := fr9 ad.block rfl; rintro (h | h) <;> omega)).more T.size
    refine ⟨hc', ⟨by simp [hL], _, rdW, fun ad e hn => ⟨⟨ga, by rw [hga] at e; injection e with e; exact e.symm⟩, fun hf => ?_⟩, fun k x hx => ?_⟩, BW⟩
    · rw [hga] at e; injection e with e; subst e
      have := hF _ hf
      have : ga < w.heap.size := this
      omega
    · have hcn := hcl0.1
      by_cases hk : k < L.length
      · rw [List.getElem?_append_left hk] at hx
        obtain ⟨A, c, a0, a1, a2, a3, h5, h6, h7⟩ := hrec k x hx
        exact ⟨A, c, by rw [List.getElem?_append_left (by omega)]; exact a0, by rw [List.getElem?_append_left (by omega)]; exact a1, by rw [List.getElem?_append_left (by omega)]; exact a2, by rw [List.getElem?_append_left (by omega)]; exact a3, h5.later BW, h6, fun ad e => ⟨Nat.lt_of_lt_of_le (h7 ad e).1 BW.size, (h7 ad e).2⟩⟩
      · have hke : k = L.length := by
          have := (List.getElem?_eq_some_iff.1 hx).1
          simp at this; omega
        subst hke
        rw [List.getElem?_append_right (Nat.le_refl _)] at hx
        obtain rfl : r = x := by simpa using hx
        have e : L.length * 4 = cells.length := by omega
        rw [e]
        exact ⟨Ab, cb, by simp [hob], by simp [hkl], by simp [hnm], by simp [hky], by rw [hkl]; exact hr.later BW, by omega, fun ad e => ⟨Nat.lt_of_lt_of_le (hA ad e).1 BW.size, (hA ad e).2⟩⟩
  have HEND := Lib.hid hend
  clear hend hrec
  clear hob hkl hnm hky hr hA hF d1 d2 d3 hform hcl0
  go_enter Try.func45, Try.ntmps45
  go_wp2_with fail
  try rw [hw1]
  try rw [hw2]
  try rw [hw3]
  clear hw1 hw2 hw3
  have S3 := Lib.hid s3
  clear s1 s2 s3
  -- REGION
  refine wp_region_held_drew (S := AddS w.heap.size ob kl nm ky Ab cb) (by kernel_rfl) hS3 (fun hHeld => ?_)
  clear hHeld
  (try simp only [Act.put, List.setIfInBounds_toArray, List.set_cons_zero, List.set_cons_succ])
  refine wpAnyH_take (i := 1) (oi := { dst := some 6, op := Op.fieldAddr 43 (Operand.tmp 2) 0, type := 0, pos := _, after := #[], guard := none }) (v := ?_) rfl (by kernel_rfl) (by kernel_rfl) (by kernel_rfl) (fun _ _ _ h => h) (Or.inl ⟨by rfl, ?_⟩) hS3 ?_
  rotate_left
  · intro w hSw; obtain ⟨z1, z2, z3, z4⟩ := hSw; go_simp; try with_reducible rfl
  (try simp only [Act.put, List.setIfInBounds_toArray, List.set_cons_zero, List.set_cons_succ])
  refine wpAnyH_take (i := 4) (oi := { dst := some 9, op := Op.load 71 (Operand.tmp 3), type := 71, pos := _, after := #[], guard := none }) (v := ?_) rfl (by kernel_rfl) (by kernel_rfl) (by kernel_rfl) (fun _ _ _ h => h) (Or.inl ⟨by rfl, ?_⟩) hS3 ?_
  rotate_left
  · intro w hSw; obtain ⟨z1, z2, z3, z4⟩ := hSw; go_simp; try with_reducible rfl
  (try simp only [Act.put, List.setIfInBounds_toArray, List.set_cons_zero, List.set_cons_succ])
  refine wpAnyH_ready (rs := [0, 2, 5]) (by kernel_rfl) (by simp) (AllReadyH.cons (o := { dst := some 5, op := Op.buildSlice 41 0 #[], type := 41, pos := _, after := #[], guard := none }) rfl (fun K hK => ?_) (AllReadyH.cons (o := { dst := some 7, op := Op.load 41 (Operand.tmp 6), type := 41, pos := _, after := #[{ on := 1, ground := Ground.data }], guard := none }) rfl (fun K hK => ?_) (AllReadyH.cons (o := { dst := some 10, op := Op.buildSlice 41 1 #[(0, Operand.tmp 9)], type := 41, pos := _, after := #[{ on := 4, ground := Ground.data }], guard := none }) rfl (fun K hK => ?_) AllReadyH.nil)))
  · go_simp
    obtain ⟨v4, hv4⟩ : ∃ x, (World.alloc w3 (.cells #[] 71)).drew = x := ⟨_, rfl⟩
    have dv4 : Below w3.drew.heap.size w3.drew v4 := by rw [← hv4]; exact (Below.refl _ _).alloc (Nat.le_refl _) _
    have Bv4 := blater hB3 (Nat.le_refl _) dv4
    have HSv4 := Lib.hid (show v4.heap.size = w3.heap.size + 1 by rw [← hv4]; simp)
    have Sv4 := addS Bv4 rfl s0
    have n0v4 : v4.ownsRow w3.heap.size 71 4 (.slice (some ⟨w3.heap.size, 0, none⟩) 0 0) 0 [] := by rw [← hv4]; exact World.ownsRow_lit w3.drew #[] 0 hB3.size (by decide) rfl
    try rw [hv4]
    clear hv4
    refine hK.out _ _ Sv4 (fun hHeld => ?_)
    clear hK K hHeld
    (try simp only [Act.put, List.setIfInBounds_toArray, List.set_cons_zero, List.set_cons_succ])
    refine wpAnyH_ready (rs := [2, 5]) (by kernel_rfl) (by simp) (AllReadyH.cons (o := { dst := some 7, op := Op.load 41 (Operand.tmp 6), type := 41, pos := _, after := #[{ on := 1, ground := Ground.data }], guard := none }) rfl (fun K hK => ?_) (AllReadyH.cons (o := { dst := some 10, op := Op.buildSlice 41 1 #[(0, Operand.tmp 9)], type := 41, pos := _, after := #[{ on := 4, ground := Ground.data }], guard := none }) rfl (fun K hK => ?_) AllReadyH.nil))
    · have zz := (Bv4.cell (cell_lt t0)).trans t0
      go_simp
      refine hK.out _ _ Sv4 (fun hHeld => ?_)
      clear hK K hHeld
      (try simp only [Act.put, List.setIfInBounds_toArray, List.set_cons_zero, List.set_cons_succ])
      clear zz
      refine wpAnyH_ready (rs := [3, 5]) (by kernel_rfl) (by simp) (AllReadyH.cons (o := { dst := some 8, op := Op.call { callee := Callee.builtin Builtin.append, args := #[Operand.tmp 5, Operand.tmp 7], argTypes := #[41, 41] }, type := 41, pos := _, after := #[{ on := 0, ground := Ground.data }, { on := 2, ground := Ground.data }], guard := none }) rfl (fun K hK => ?_) (AllReadyH.cons (o := { dst := some 10, op := Op.buildSlice 41 1 #[(0, Operand.tmp 9)], type := 41, pos := _, after := #[{ on := 4, ground := Ground.data }], guard := none }) rfl (fun K hK => ?_) AllReadyH.nil))
      · have rLv5 := hcl.below Bv4
        refine step_append_any (by rfl) _ _ 41 (by rfl) w3.heap.size 71 i0 (.agg #[.bool false, .slice none 0 0, .int .u64 0, .int .u64 0]) 4 48 Try.underlying41 hi hz0 hz1 hz2 rfl (by omega) (.slice (some ⟨w3.heap.size, 0, none⟩) 0 0) 0 [] (by rfl) n0v4 w3.heap.size A n cap cells (by rfl) rLv5 hone (by unfold maxLen; omega) (by omega) Bv4.size ?_
        intro Av5 kv5 v5 ownv5 grv5 atv5
        simp only [Nat.zero_add, List.nil_append] at ownv5 ⊢
        have Bv5 := Bv4.grown grv5 Bv4.size (fun k e => (own_from n0v4 k e).1)
        have Sv5 := addS Bv5 rfl s0
        refine hK.out _ _ Sv5 (fun hHeld => ?_)
        clear hK K hHeld
        (try simp only [Act.put, List.setIfInBounds_toArray, List.set_cons_zero, List.set_cons_succ])
        refine wpAnyH_ready (rs := [5]) (by kernel_rfl) (by simp) (AllReadyH.cons (o := { dst := some 10, op := Op.buildSlice 41 1 #[(0, Operand.tmp 9)], type := 41, pos := _, after := #[{ on := 4, ground := Ground.data }], guard := none }) rfl (fun K hK => ?_) AllReadyH.nil)
        go_simp
        obtain ⟨v6, hv6⟩ : ∃ x, World.alloc v5 (.cells #[.bool ob, .slice Ab kl cb, .int .u64 (nm.toNat : Int), .int .u64 (ky.toNat : Int)] 71) = x := ⟨_, rfl⟩
        have dv6 : Below v5.heap.size v5 v6 := by rw [← hv6]; exact (Below.refl _ _).alloc (Nat.le_refl _) _
        have Bv6 := blater Bv5 (Nat.le_refl _) dv6
        have HSv6 := Lib.hid (show v6.heap.size = v5.heap.size + 1 by rw [← hv6]; simp)
        have Sv6 := addS Bv6 rfl s0
        have own8v6 := own_below ownv5 dv6
        have n1v6 : Reads v6 v6.heap.size 4 (some ⟨v5.heap.size, 0, none⟩) 1 [.bool ob, .slice Ab kl cb, .int .u64 (nm.toNat : Int), .int .u64 (ky.toNat : Int)] := by rw [← hv6]; exact Reads.newS v5 [.bool ob, .slice Ab kl cb, .int .u64 (nm.toNat : Int), .int .u64 (ky.toNat : Int)] 71 4 1 rfl
        try rw [hv6]
        clear hv6
        refine hK.out _ _ Sv6 (fun hHeld => ?_)
        clear hK K hHeld
        (try simp only [Act.put, List.setIfInBounds_toArray, List.set_cons_zero, List.set_cons_succ])
        refine wpAnyH_ready (rs := [6]) (by kernel_rfl) (by simp) (AllReadyH.cons (o := { dst := some 11, op := Op.call { callee := Callee.builtin Builtin.append, args := #[Operand.tmp 8, Operand.tmp 10], argTypes := #[41, 41] }, type := 41, pos := _, after := #[{ on := 3, ground := Ground.data }, { on := 5, ground := Ground.data }, { on := 3, ground := Ground.chain }], guard := none }) rfl (fun K hK => ?_) AllReadyH.nil)
        refine step_append_any (by rfl) _ _ 41 (by rfl) w3.heap.size 71 i0 (.agg #[.bool false, .slice none 0 0, .int .u64 0, .int .u64 0]) 4 48 Try.underlying41 hi hz0 hz1 hz2 rfl (by omega) (.slice Av5 n kv5) n cells (by rfl) own8v6 v6.heap.size (some ⟨v5.heap.size, 0, none⟩) 1 1 [.bool ob, .slice Ab kl cb, .int .u64 (nm.toNat : Int), .int .u64 (ky.toNat : Int)] (by rfl) n1v6 hone4 (by unfold maxLen; omega) (by omega) Bv6.size ?_
        intro A9 c9 w9 own9 gr9 at9
        have B9 := Bv6.grown gr9 Bv6.size (fun k e => (own_from own8v6 k e).1)
        have S9 := addS B9 rfl s0
        refine hK.out _ _ S9 (fun hHeld => ?_)
        clear hK K hHeld
        (try simp only [Act.put, List.setIfInBounds_toArray, List.set_cons_zero, List.set_cons_succ])
        refine wpAnyH_take (i := 7) (oi := { dst := some 12, op := Op.fieldAddr 43 (Operand.tmp 2) 0, type := 0, pos := _, after := #[{ on := 0, ground := Ground.phase }, { on := 1, ground := Ground.phase }, { on := 2, ground := Ground.phase }, { on := 3, ground := Ground.phase }, { on := 4, ground := Ground.phase }, { on := 5, ground := Ground.phase }, { on := 6, ground := Ground.phase }], guard := none }) (v := ?_) rfl (by kernel_rfl) (by kernel_rfl) (by kernel_rfl) (fun _ _ _ h => h) (Or.inl ⟨by rfl, ?_⟩) S9 ?_
        rotate_left
        · intro w hSw; obtain ⟨z1, z2, z3, z4⟩ := hSw; go_simp; try with_reducible rfl
        (try simp only [Act.put, List.setIfInBounds_toArray, List.set_cons_zero, List.set_cons_succ])
        refine wpAnyH_ready (rs := [8]) (by kernel_rfl) (by simp) (AllReadyH.cons (o := { dst := none, op := Op.store 41 (Operand.tmp 12) (Operand.tmp 11), type := 0, pos := _, after := #[{ on := 7, ground := Ground.data }, { on := 6, ground := Ground.data }, { on := 6, ground := Ground.chain }, { on := 0, ground := Ground.phase }, { on := 1, ground := Ground.phase }, { on := 2, ground := Ground.phase }, { on := 3, ground := Ground.phase }, { on := 4, ground := Ground.phase }, { on := 5, ground := Ground.phase }, { on := 6, ground := Ground.phase }], guard := none }) rfl (fun K hK => ?_) AllReadyH.nil)
        have tw9 := htw3.below B9
        have tr9 := htr.below B9
        have f9 := tw9.frozen0
        have z9 := tw9.cell0
        go_simp
        obtain ⟨w10, hw10⟩ : ∃ x, w9.setCell ⟨w.heap.size, 0, none⟩ (.slice A9 (n + 1) c9) = x := ⟨_, rfl⟩
        have g10 : w9.grownBy w10 (some w.heap.size) := by rw [← hw10]; exact set1_grown w9 ⟨w.heap.size, 0, none⟩ (.slice A9 (n + 1) c9)
        have tw10 : Two w10 w.heap.size 43 (.slice A9 (n + 1) c9) (.int .i64 sc) := by rw [← hw10]; exact tw9.set0 _
        have tr10 := tr9.kept g10 (fun e => by injection e with e; omega)
        have S10 := S9.kept g10
        rw [hw10]
        clear hw10 f9 z9
        refine hK.out _ _ S10 (fun hHeld => ?_)
        clear hK K hHeld
        (try simp only [Act.put, List.setIfInBounds_toArray, List.set_cons_zero, List.set_cons_succ])
        refine wpAnyH_done (by kernel_rfl) ?_ _
        have o0 := tw10.cell0
        have o1 := tw10.cell1
        have r0 := tr10.cell0
        have r1 := tr10.cell1
        have r2 := tr10.frozen0
        have r3 := tr10.frozen1
        have hfin := fun W hb => HEND.out w9 w10 W A9 c9 own9 B9 g10 hb
        go_wp2_with fail
        (try simp only [Exit.inBlock, Exit.then])
        refine bodyPost_ret (res_S rfl _ _ _ _ _ rfl ((tr10.set0 (.slice A9 (n + 1) c9)).set1 (.int .i64 sc))) rfl ?_
        exact ⟨_, _, rfl, hfin _ (two_turn _ _)⟩
      · go_simp
        obtain ⟨v7, hv7⟩ : ∃ x, World.alloc v4 (.cells #[.bool ob, .slice Ab kl cb, .int .u64 (nm.toNat : Int), .int .u64 (ky.toNat : Int)] 71) = x := ⟨_, rfl⟩
        have dv7 : Below v4.heap.size v4 v7 := by rw [← hv7]; exact (Below.refl _ _).alloc (Nat.le_refl _) _
        have Bv7 := blater Bv4 (Nat.le_refl _) dv7
        have HSv7 := Lib.hid (show v7.heap.size = v4.heap.size + 1 by rw [← hv7]; simp)
        have Sv7 := addS Bv7 rfl s0
        have own0v7 := own_below n0v4 dv7
        have n1v7 : Reads v7 v7.heap.size 4 (some ⟨v4.heap.size, 0, none⟩) 1 [.bool ob, .slice Ab kl cb, .int .u64 (nm.toNat : Int), .int .u64 (ky.toNat : Int)] := by rw [← hv7]; exact Reads.newS v4 [.bool ob, .slice Ab kl cb, .int .u64 (nm.toNat : Int), .int .u64 (ky.toNat : Int)] 71 4 1 rfl
        try rw [hv7]
        clear hv7
        refine hK.out _ _ Sv7 (fun hHeld => ?_)
        clear hK K hHeld
        (try simp only [Act.put, List.setIfInBounds_toArray, List.set_cons_zero, List.set_cons_succ])
        refine wpAnyH_ready (rs := [3]) (by kernel_rfl) (by simp) (AllReadyH.cons (o := { dst := some 8, op := Op.call { callee := Callee.builtin Builtin.append, args := #[Operand.tmp 5, Operand.tmp 7], argTypes := #[41, 41] }, type := 41, pos := _, after := #[{ on := 0, ground := Ground.data }, { on := 2, ground := Ground.data }], guard := none }) rfl (fun K hK => ?_) AllReadyH.nil)
        have rLv8 := hcl.below Bv7
        refine step_append_any (by rfl) _ _ 41 (by rfl) w3.heap.size 71 i0 (.agg #[.bool false, .slice none 0 0, .int .u64 0, .int .u64 0]) 4 48 Try.underlying41 hi hz0 hz1 hz2 rfl (by omega) (.slice (some ⟨w3.heap.size, 0, none⟩) 0 0) 0 [] (by rfl) own0v7 w3.heap.size A n cap cells (by rfl) rLv8 hone (by unfold maxLen; omega) (by omega) Bv7.size ?_
        intro Av8 kv8 v8 ownv8 grv8 atv8
        simp only [Nat.zero_add, List.nil_append] at ownv8 ⊢
        have Bv8 := Bv7.grown grv8 Bv7.size (fun k e => (own_from own0v7 k e).1)
        have Sv8 := addS Bv8 rfl s0
        have rdx := reads_apart n1v7 grv8 (fun e => by have q0 := HSv4.out; simp [Value.ownBlock] at e; omega)
        refine hK.out _ _ Sv8 (fun hHeld => ?_)
        clear hK K hHeld
        (try simp only [Act.put, List.setIfInBounds_toArray, List.set_cons_zero, List.set_cons_succ])
        refine wpAnyH_ready (rs := [6]) (by kernel_rfl) (by simp) (AllReadyH.cons (o := { dst := some 11, op := Op.call { callee := Callee.builtin Builtin.append, args := #[Operand.tmp 8, Operand.tmp 10], argTypes := #[41, 41] }, type := 41, pos := _, after := #[{ on := 3, ground := Ground.data }, { on := 5, ground := Ground.data }, { on := 3, ground := Ground.chain }], guard := none }) rfl (fun K hK => ?_) AllReadyH.nil)
        refine step_append_any (by rfl) _ _ 41 (by rfl) w3.heap.size 71 i0 (.agg #[.bool false, .slice none 0 0, .int .u64 0, .int .u64 0]) 4 48 Try.underlying41 hi hz0 hz1 hz2 rfl (by omega) (.slice Av8 n kv8) n cells (by rfl) ownv8 v8.heap.size (some ⟨v4.heap.size, 0, none⟩) 1 1 [.bool ob, .slice Ab kl cb, .int .u64 (nm.toNat : Int), .int .u64 (ky.toNat : Int)] (by rfl) rdx hone4 (by unfold maxLen; omega) (by omega) Bv8.size ?_
        intro A9 c9 w9 own9 gr9 at9
        have B9 := Bv8.grown gr9 Bv8.size (fun k e => (own_from ownv8 k e).1)
        have S9 := addS B9 rfl s0
        refine hK.out _ _ S9 (fun hHeld => ?_)
        clear hK K hHeld
        (try simp only [Act.put, List.setIfInBounds_toArray, List.set_cons_zero, List.set_cons_succ])
        refine wpAnyH_take (i := 7) (oi := { dst := some 12, op := Op.fieldAddr 43 (Operand.tmp 2) 0, type := 0, pos := _, after := #[{ on := 0, ground := Ground.phase }, { on := 1, ground := Ground.phase }, { on := 2, ground := Ground.phase }, { on := 3, ground := Ground.phase }, { on := 4, ground := Ground.phase }, { on := 5, ground := Ground.phase }, { on := 6, ground := Ground.phase }], guard := none }) (v := ?_) rfl (by kernel_rfl) (by kernel_rfl) (by kernel_rfl) (fun _ _ _ h => h) (Or.inl ⟨by rfl, ?_⟩) S9 ?_
        rotate_left
        · intro w hSw; obtain ⟨z1, z2, z3, z4⟩ := hSw; go_simp; try with_reducible rfl
        (try simp only [Act.put, List.setIfInBounds_toArray, List.set_cons_zero, List.set_cons_succ])
        refine wpAnyH_ready (rs := [8]) (by kernel_rfl) (by simp) (AllReadyH.cons (o := { dst := none, op := Op.store 41 (Operand.tmp 12) (Operand.tmp 11), type := 0, pos := _, after := #[{ on := 7, ground := Ground.data }, { on := 6, ground := Ground.data }, { on := 6, ground := Ground.chain }, { on := 0, ground := Ground.phase }, { on := 1, ground := Ground.phase }, { on := 2, ground := Ground.phase }, { on := 3, ground := Ground.phase }, { on := 4, ground := Ground.phase }, { on := 5, ground := Ground.phase }, { on := 6, ground := Ground.phase }], guard := none }) rfl (fun K hK => ?_) AllReadyH.nil)
        have tw9 := htw3.below B9
        have tr9 := htr.below B9
        have f9 := tw9.frozen0
        have z9 := tw9.cell0
        go_simp
        obtain ⟨w10, hw10⟩ : ∃ x, w9.setCell ⟨w.heap.size, 0, none⟩ (.slice A9 (n + 1) c9) = x := ⟨_, rfl⟩
        have g10 : w9.grownBy w10 (some w.heap.size) := by rw [← hw10]; exact set1_grown w9 ⟨w.heap.size, 0, none⟩ (.slice A9 (n + 1) c9)
        have tw10 : Two w10 w.heap.size 43 (.slice A9 (n + 1) c9) (.int .i64 sc) := by rw [← hw10]; exact tw9.set0 _
        have tr10 := tr9.kept g10 (fun e => by injection e with e; omega)
        have S10 := S9.kept g10
        rw [hw10]
        clear hw10 f9 z9
        refine hK.out _ _ S10 (fun hHeld => ?_)
        clear hK K hHeld
        (try simp only [Act.put, List.setIfInBounds_toArray, List.set_cons_zero, List.set_cons_succ])
        refine wpAnyH_done (by kernel_rfl) ?_ _
        have o0 := tw10.cell0
        have o1 := tw10.cell1
        have r0 := tr10.cell0
        have r1 := tr10.cell1
        have r2 := tr10.frozen0
        have r3 := tr10.frozen1
        have hfin := fun W hb => HEND.out w9 w10 W A9 c9 own9 B9 g10 hb
        go_wp2_with fail
        (try simp only [Exit.inBlock, Exit.then])
        refine bodyPost_ret (res_S rfl _ _ _ _ _ rfl ((tr10.set0 (.slice A9 (n + 1) c9)).set1 (.int .i64 sc))) rfl ?_
        exact ⟨_, _, rfl, hfin _ (two_turn _ _)⟩
    · go_simp
      obtain ⟨v9, hv9⟩ : ∃ x, World.alloc v4 (.cells #[.bool ob, .slice Ab kl cb, .int .u64 (nm.toNat : Int), .int .u64 (ky.toNat : Int)] 71) = x := ⟨_, rfl⟩
      have dv9 : Below v4.heap.size v4 v9 := by rw [← hv9]; exact (Below.refl _ _).alloc (Nat.le_refl _) _
      have Bv9 := blater Bv4 (Nat.le_refl _) dv9
      have HSv9 := Lib.hid (show v9.heap.size = v4.heap.size + 1 by rw [← hv9]; simp)
      have Sv9 := addS Bv9 rfl s0
      have own0v9 := own_below n0v4 dv9
      have n1v9 : Reads v9 v9.heap.size 4 (some ⟨v4.heap.size, 0, none⟩) 1 [.bool ob, .slice Ab kl cb, .int .u64 (nm.toNat : Int), .int .u64 (ky.toNat : Int)] := by rw [← hv9]; exact Reads.newS v4 [.bool ob, .slice Ab kl cb, .int .u64 (nm.toNat : Int), .int .u64 (ky.toNat : Int)] 71 4 1 rfl
      try rw [hv9]
      clear hv9
      refine hK.out _ _ Sv9 (fun hHeld => ?_)
      clear hK K hHeld
      (try simp only [Act.put, List.setIfInBounds_toArray, List.set_cons_zero, List.set_cons_succ])
      refine wpAnyH_ready (rs := [2]) (by kernel_rfl) (by simp) (AllReadyH.cons (o := { dst := some 7, op := Op.load 41 (Operand.tmp 6), type := 41, pos := _, after := #[{ on := 1, ground := Ground.data }], guard := none }) rfl (fun K hK => ?_) AllReadyH.nil)
      have zz := (Bv9.cell (cell_lt t0)).trans t0
      go_simp
      refine hK.out _ _ Sv9 (fun hHeld => ?_)
      clear hK K hHeld
      (try simp only [Act.put, List.setIfInBounds_toArray, List.set_cons_zero, List.set_cons_succ])
      clear zz
      refine wpAnyH_ready (rs := [3]) (by kernel_rfl) (by simp) (AllReadyH.cons (o := { dst := some 8, op := Op.call { callee := Callee.builtin Builtin.append, args := #[Operand.tmp 5, Operand.tmp 7], argTypes := #[41, 41] }, type := 41, pos := _, after := #[{ on := 0, ground := Ground.data }, { on := 2, ground := Ground.data }], guard := none }) rfl (fun K hK => ?_) AllReadyH.nil)
      have rLv10 := hcl.below Bv9
      refine step_append_any (by rfl) _ _ 41 (by rfl) w3.heap.size 71 i0 (.agg #[.bool false, .slice none 0 0, .int .u64 0, .int .u64 0]) 4 48 Try.underlying41 hi hz0 hz1 hz2 rfl (by omega) (.slice (some ⟨w3.heap.size, 0, none⟩) 0 0) 0 [] (by rfl) own0v9 w3.heap.size A n cap cells (by rfl) rLv10 hone (by unfold maxLen; omega) (by omega) Bv9.size ?_
      intro Av10 kv10 v10 ownv10 grv10 atv10
      simp only [Nat.zero_add, List.nil_append] at ownv10 ⊢
      have Bv10 := Bv9.grown grv10 Bv9.size (fun k e => (own_from own0v9 k e).1)
      have Sv10 := addS Bv10 rfl s0
      have rdx := reads_apart n1v9 grv10 (fun e => by have q0 := HSv4.out; simp [Value.ownBlock] at e; omega)
      refine hK.out _ _ Sv10 (fun hHeld => ?_)
      clear hK K hHeld
      (try simp only [Act.put, List.setIfInBounds_toArray, List.set_cons_zero, List.set_cons_succ])
      refine wpAnyH_ready (rs := [6]) (by kernel_rfl) (by simp) (AllReadyH.cons (o := { dst := some 11, op := Op.call { callee := Callee.builtin Builtin.append, args := #[Operand.tmp 8, Operand.tmp 10], argTypes := #[41, 41] }, type := 41, pos := _, after := #[{ on := 3, ground := Ground.data }, { on := 5, ground := Ground.data }, { on := 3, ground := Ground.chain }], guard := none }) rfl (fun K hK => ?_) AllReadyH.nil)
      refine step_append_any (by rfl) _ _ 41 (by rfl) w3.heap.size 71 i0 (.agg #[.bool false, .slice none 0 0, .int .u64 0, .int .u64 0]) 4 48 Try.underlying41 hi hz0 hz1 hz2 rfl (by omega) (.slice Av10 n kv10) n cells (by rfl) ownv10 v10.heap.size (some ⟨v4.heap.size, 0, none⟩) 1 1 [.bool ob, .slice Ab kl cb, .int .u64 (nm.toNat : Int), .int .u64 (ky.toNat : Int)] (by rfl) rdx hone4 (by unfold maxLen; omega) (by omega) Bv10.size ?_
      intro A9 c9 w9 own9 gr9 at9
      have B9 := Bv10.grown gr9 Bv10.size (fun k e => (own_from ownv10 k e).1)
      have S9 := addS B9 rfl s0
      refine hK.out _ _ S9 (fun hHeld => ?_)
      clear hK K hHeld
      (try simp only [Act.put, List.setIfInBounds_toArray, List.set_cons_zero, List.set_cons_succ])
      refine wpAnyH_take (i := 7) (oi := { dst := some 12, op := Op.fieldAddr 43 (Operand.tmp 2) 0, type := 0, pos := _, after := #[{ on := 0, ground := Ground.phase }, { on := 1, ground := Ground.phase }, { on := 2, ground := Ground.phase }, { on := 3, ground := Ground.phase }, { on := 4, ground := Ground.phase }, { on := 5, ground := Ground.phase }, { on := 6, ground := Ground.phase }], guard := none }) (v := ?_) rfl (by kernel_rfl) (by kernel_rfl) (by kernel_rfl) (fun _ _ _ h => h) (Or.inl ⟨by rfl, ?_⟩) S9 ?_
      rotate_left
      · intro w hSw; obtain ⟨z1, z2, z3, z4⟩ := hSw; go_simp; try with_reducible rfl
      (try simp only [Act.put, List.setIfInBounds_toArray, List.set_cons_zero, List.set_cons_succ])
      refine wpAnyH_ready (rs := [8]) (by kernel_rfl) (by simp) (AllReadyH.cons (o := { dst := none, op := Op.store 41 (Operand.tmp 12) (Operand.tmp 11), type := 0, pos := _, after := #[{ on := 7, ground := Ground.data }, { on := 6, ground := Ground.data }, { on := 6, ground := Ground.chain }, { on := 0, ground := Ground.phase }, { on := 1, ground := Ground.phase }, { on := 2, ground := Ground.phase }, { on := 3, ground := Ground.phase }, { on := 4, ground := Ground.phase }, { on := 5, ground := Ground.phase }, { on := 6, ground := Ground.phase }], guard := none }) rfl (fun K hK => ?_) AllReadyH.nil)
      have tw9 := htw3.below B9
      have tr9 := htr.below B9
      have f9 := tw9.frozen0
      have z9 := tw9.cell0
      go_simp
      obtain ⟨w10, hw10⟩ : ∃ x, w9.setCell ⟨w.heap.size, 0, none⟩ (.slice A9 (n + 1) c9) = x := ⟨_, rfl⟩
      have g10 : w9.grownBy w10 (some w.heap.size) := by rw [← hw10]; exact set1_grown w9 ⟨w.heap.size, 0, none⟩ (.slice A9 (n + 1) c9)
      have tw10 : Two w10 w.heap.size 43 (.slice A9 (n + 1) c9) (.int .i64 sc) := by rw [← hw10]; exact tw9.set0 _
      have tr10 := tr9.kept g10 (fun e => by injection e with e; omega)
      have S10 := S9.kept g10
      rw [hw10]
      clear hw10 f9 z9
      refine hK.out _ _ S10 (fun hHeld => ?_)
      clear hK K hHeld
      (try simp only [Act.put, List.setIfInBounds_toArray, List.set_cons_zero, List.set_cons_succ])
      refine wpAnyH_done (by kernel_rfl) ?_ _
      have o0 := tw10.cell0
      have o1 := tw10.cell1
      have r0 := tr10.cell0
      have r1 := tr10.cell1
      have r2 := tr10.frozen0
      have r3 := tr10.frozen1
      have hfin := fun W hb => HEND.out w9 w10 W A9 c9 own9 B9 g10 hb
      go_wp2_with fail
      (try simp only [Exit.inBlock, Exit.then])
      refine bodyPost_ret (res_S rfl _ _ _ _ _ rfl ((tr10.set0 (.slice A9 (n + 1) c9)).set1 (.int .i64 sc))) rfl ?_
      exact ⟨_, _, rfl, hfin _ (two_turn _ _)⟩
  · have zz := (hB3.cell (cell_lt t0)).trans t0
    go_simp
    refine hK.out _ _ hS3 (fun hHeld => ?_)
    clear hK K hHeld
    (try simp only [Act.put, List.setIfInBounds_toArray, List.set_cons_zero, List.set_cons_succ])
    clear zz
    refine wpAnyH_ready (rs := [0, 5]) (by kernel_rfl) (by simp) (AllReadyH.cons (o := { dst := some 5, op := Op.buildSlice 41 0 #[], type := 41, pos := _, after := #[], guard := none }) rfl (fun K hK => ?_) (AllReadyH.cons (o := { dst := some 10, op := Op.buildSlice 41 1 #[(0, Operand.tmp 9)], type := 41, pos := _, after := #[{ on := 4, ground := Ground.data }], guard := none }) rfl (fun K hK => ?_) AllReadyH.nil))
    · go_simp
      obtain ⟨v11, hv11⟩ : ∃ x, (World.alloc w3 (.cells #[] 71)).drew = x := ⟨_, rfl⟩
      have dv11 : Below w3.drew.heap.size w3.drew v11 := by rw [← hv11]; exact (Below.refl _ _).alloc (Nat.le_refl _) _
      have Bv11 := blater hB3 (Nat.le_refl _) dv11
      have HSv11 := Lib.hid (show v11.heap.size = w3.heap.size + 1 by rw [← hv11]; simp)
      have Sv11 := addS Bv11 rfl s0
      have n0v11 : v11.ownsRow w3.heap.size 71 4 (.slice (some ⟨w3.heap.size, 0, none⟩) 0 0) 0 [] := by rw [← hv11]; exact World.ownsRow_lit w3.drew #[] 0 hB3.size (by decide) rfl
      try rw [hv11]
      clear hv11
      refine hK.out _ _ Sv11 (fun hHeld => ?_)
      clear hK K hHeld
      (try simp only [Act.put, List.setIfInBounds_toArray, List.set_cons_zero, List.set_cons_succ])
      refine wpAnyH_ready (rs := [3, 5]) (by kernel_rfl) (by simp) (AllReadyH.cons (o := { dst := some 8, op := Op.call { callee := Callee.builtin Builtin.append, args := #[Operand.tmp 5, Operand.tmp 7], argTypes := #[41, 41] }, type := 41, pos := _, after := #[{ on := 0, ground := Ground.data }, { on := 2, ground := Ground.data }], guard := none }) rfl (fun K hK => ?_) (AllReadyH.cons (o := { dst := some 10, op := Op.buildSlice 41 1 #[(0, Operand.tmp 9)], type := 41, pos := _, after := #[{ on := 4, ground := Ground.data }], guard := none }) rfl (fun K hK => ?_) AllReadyH.nil))
      · have rLv12 := hcl.below Bv11
        refine step_append_any (by rfl) _ _ 41 (by rfl) w3.heap.size 71 i0 (.agg #[.bool false, .slice none 0 0, .int .u64 0, .int .u64 0]) 4 48 Try.underlying41 hi hz0 hz1 hz2 rfl (by omega) (.slice (some ⟨w3.heap.size, 0, none⟩) 0 0) 0 [] (by rfl) n0v11 w3.heap.size A n cap cells (by rfl) rLv12 hone (by unfold maxLen; omega) (by omega) Bv11.size ?_
        intro Av12 kv12 v12 ownv12 grv12 atv12
        simp only [Nat.zero_add, List.nil_append] at ownv12 ⊢
        have Bv12 := Bv11.grown grv12 Bv11.size (fun k e => (own_from n0v11 k e).1)
        have Sv12 := addS Bv12 rfl s0
        refine hK.out _ _ Sv12 (fun hHeld => ?_)
        clear hK K hHeld
        (try simp only [Act.put, List.setIfInBounds_toArray, List.set_cons_zero, List.set_cons_succ])
        refine wpAnyH_ready (rs := [5]) (by kernel_rfl) (by simp) (AllReadyH.cons (o := { dst := some 10, op := Op.buildSlice 41 1 #[(0, Operand.tmp 9)], type := 41, pos := _, after := #[{ on := 4, ground := Ground.data }], guard := none }) rfl (fun K hK => ?_) AllReadyH.nil)
        go_simp
        obtain ⟨v13, hv13⟩ : ∃ x, World.alloc v12 (.cells #[.bool ob, .slice Ab kl cb, .int .u64 (nm.toNat : Int), .int .u64 (ky.toNat : Int)] 71) = x := ⟨_, rfl⟩
        have dv13 : Below v12.heap.size v12 v13 := by rw [← hv13]; exact (Below.refl _ _).alloc (Nat.le_refl _) _
        have Bv13 := blater Bv12 (Nat.le_refl _) dv13
        have HSv13 := Lib.hid (show v13.heap.size = v12.heap.size + 1 by rw [← hv13]; simp)
        have Sv13 := addS Bv13 rfl s0
        have own8v13 := own_below ownv12 dv13
        have n1v13 : Reads v13 v13.heap.size 4 (some ⟨v12.heap.size, 0, none⟩) 1 [.bool ob, .slice Ab kl cb, .int .u64 (nm.toNat : Int), .int .u64 (ky.toNat : Int)] := by rw [← hv13]; exact Reads.newS v12 [.bool ob, .slice Ab kl cb, .int .u64 (nm.toNat : Int), .int .u64 (ky.toNat : Int)] 71 4 1 rfl
        try rw [hv13]
        clear hv13
        refine hK.out _ _ Sv13 (fun hHeld => ?_)
        clear hK K hHeld
        (try simp only [Act.put, List.setIfInBounds_toArray, List.set_cons_zero, List.set_cons_succ])
        refine wpAnyH_ready (rs := [6]) (by kernel_rfl) (by simp) (AllReadyH.cons (o := { dst := some 11, op := Op.call { callee := Callee.builtin Builtin.append, args := #[Operand.tmp 8, Operand.tmp 10], argTypes := #[41, 41] }, type := 41, pos := _, after := #[{ on := 3, ground := Ground.data }, { on := 5, ground := Ground.data }, { on := 3, ground := Ground.chain }], guard := none }) rfl (fun K hK => ?_) AllReadyH.nil)
        refine step_append_any (by rfl) _ _ 41 (by rfl) w3.heap.size 71 i0 (.agg #[.bool false, .slice none 0 0, .int .u64 0, .int .u64 0]) 4 48 Try.underlying41 hi hz0 hz1 hz2 rfl (by omega) (.slice Av12 n kv12) n cells (by rfl) own8v13 v13.heap.size (some ⟨v12.heap.size, 0, none⟩) 1 1 [.bool ob, .slice Ab kl cb, .int .u64 (nm.toNat : Int), .int .u64 (ky.toNat : Int)] (by rfl) n1v13 hone4 (by unfold maxLen; omega) (by omega) Bv13.size ?_
        intro A9 c9 w9 own9 gr9 at9
        have B9 := Bv13.grown gr9 Bv13.size (fun k e => (own_from own8v13 k e).1)
        have S9 := addS B9 rfl s0
        refine hK.out _ _ S9 (fun hHeld => ?_)
        clear hK K hHeld
        (try simp only [Act.put, List.setIfInBounds_toArray, List.set_cons_zero, List.set_cons_succ])
        refine wpAnyH_take (i := 7) (oi := { dst := some 12, op := Op.fieldAddr 43 (Operand.tmp 2) 0, type := 0, pos := _, after := #[{ on := 0, ground := Ground.phase }, { on := 1, ground := Ground.phase }, { on := 2, ground := Ground.phase }, { on := 3, ground := Ground.phase }, { on := 4, ground := Ground.phase }, { on := 5, ground := Ground.phase }, { on := 6, ground := Ground.phase }], guard := none }) (v := ?_) rfl (by kernel_rfl) (by kernel_rfl) (by kernel_rfl) (fun _ _ _ h => h) (Or.inl ⟨by rfl, ?_⟩) S9 ?_
        rotate_left
        · intro w hSw; obtain ⟨z1, z2, z3, z4⟩ := hSw; go_simp; try with_reducible rfl
        (try simp only [Act.put, List.setIfInBounds_toArray, List.set_cons_zero, List.set_cons_succ])
        refine wpAnyH_ready (rs := [8]) (by kernel_rfl) (by simp) (AllReadyH.cons (o := { dst := none, op := Op.store 41 (Operand.tmp 12) (Operand.tmp 11), type := 0, pos := _, after := #[{ on := 7, ground := Ground.data }, { on := 6, ground := Ground.data }, { on := 6, ground := Ground.chain }, { on := 0, ground := Ground.phase }, { on := 1, ground := Ground.phase }, { on := 2, ground := Ground.phase }, { on := 3, ground := Ground.phase }, { on := 4, ground := Ground.phase }, { on := 5, ground := Ground.phase }, { on := 6, ground := Ground.phase }], guard := none }) rfl (fun K hK => ?_) AllReadyH.nil)
        have tw9 := htw3.below B9
        have tr9 := htr.below B9
        have f9 := tw9.frozen0
        have z9 := tw9.cell0
        go_simp
        obtain ⟨w10, hw10⟩ : ∃ x, w9.setCell ⟨w.heap.size, 0, none⟩ (.slice A9 (n + 1) c9) = x := ⟨_, rfl⟩
        have g10 : w9.grownBy w10 (some w.heap.size) := by rw [← hw10]; exact set1_grown w9 ⟨w.heap.size, 0, none⟩ (.slice A9 (n + 1) c9)
        have tw10 : Two w10 w.heap.size 43 (.slice A9 (n + 1) c9) (.int .i64 sc) := by rw [← hw10]; exact tw9.set0 _
        have tr10 := tr9.kept g10 (fun e => by injection e with e; omega)
        have S10 := S9.kept g10
        rw [hw10]
        clear hw10 f9 z9
        refine hK.out _ _ S10 (fun hHeld => ?_)
        clear hK K hHeld
        (try simp only [Act.put, List.setIfInBounds_toArray, List.set_cons_zero, List.set_cons_succ])
        refine wpAnyH_done (by kernel_rfl) ?_ _
        have o0 := tw10.cell0
        have o1 := tw10.cell1
        have r0 := tr10.cell0
        have r1 := tr10.cell1
        have r2 := tr10.frozen0
        have r3 := tr10.frozen1
        have hfin := fun W hb => HEND.out w9 w10 W A9 c9 own9 B9 g10 hb
        go_wp2_with fail
        (try simp only [Exit.inBlock, Exit.then])
        refine bodyPost_ret (res_S rfl _ _ _ _ _ rfl ((tr10.set0 (.slice A9 (n + 1) c9)).set1 (.int .i64 sc))) rfl ?_
        exact ⟨_, _, rfl, hfin _ (two_turn _ _)⟩
      · go_simp
        obtain ⟨v14, hv14⟩ : ∃ x, World.alloc v11 (.cells #[.bool ob, .slice Ab kl cb, .int .u64 (nm.toNat : Int), .int .u64 (ky.toNat : Int)] 71) = x := ⟨_, rfl⟩
        have dv14 : Below v11.heap.size v11 v14 := by rw [← hv14]; exact (Below.refl _ _).alloc (Nat.le_refl _) _
        have Bv14 := blater Bv11 (Nat.le_refl _) dv14
        have HSv14 := Lib.hid (show v14.heap.size = v11.heap.size + 1 by rw [← hv14]; simp)
        have Sv14 := addS Bv14 rfl s0
        have own0v14 := own_below n0v11 dv14
        have n1v14 : Reads v14 v14.heap.size 4 (some ⟨v11.heap.size, 0, none⟩) 1 [.bool ob, .slice Ab kl cb, .int .u64 (nm.toNat : Int), .int .u64 (ky.toNat : Int)] := by rw [← hv14]; exact Reads.newS v11 [.bool ob, .slice Ab kl cb, .int .u64 (nm.toNat : Int), .int .u64 (ky.toNat : Int)] 71 4 1 rfl
        try rw [hv14]
        clear hv14
        refine hK.out _ _ Sv14 (fun hHeld => ?_)
        clear hK K hHeld
        (try simp only [Act.put, List.setIfInBounds_toArray, List.set_cons_zero, List.set_cons_succ])
        refine wpAnyH_ready (rs := [3]) (by kernel_rfl) (by simp) (AllReadyH.cons (o := { dst := some 8, op := Op.call { callee := Callee.builtin Builtin.append, args := #[Operand.tmp 5, Operand.tmp 7], argTypes := #[41, 41] }, type := 41, pos := _, after := #[{ on := 0, ground := Ground.data }, { on := 2, ground := Ground.data }], guard := none }) rfl (fun K hK => ?_) AllReadyH.nil)
        have rLv15 := hcl.below Bv14
        refine step_append_any (by rfl) _ _ 41 (by rfl) w3.heap.size 71 i0 (.agg #[.bool false, .slice none 0 0, .int .u64 0, .int .u64 0]) 4 48 Try.underlying41 hi hz0 hz1 hz2 rfl (by omega) (.slice (some ⟨w3.heap.size, 0, none⟩) 0 0) 0 [] (by rfl) own0v14 w3.heap.size A n cap cells (by rfl) rLv15 hone (by unfold maxLen; omega) (by omega) Bv14.size ?_
        intro Av15 kv15 v15 ownv15 grv15 atv15
        simp only [Nat.zero_add, List.nil_append] at ownv15 ⊢
        have Bv15 := Bv14.grown grv15 Bv14.size (fun k e => (own_from own0v14 k e).1)
        have Sv15 := addS Bv15 rfl s0
        have rdx := reads_apart n1v14 grv15 (fun e => by have q0 := HSv11.out; simp [Value.ownBlock] at e; omega)
        refine hK.out _ _ Sv15 (fun hHeld => ?_)
        clear hK K hHeld
        (try simp only [Act.put, List.setIfInBounds_toArray, List.set_cons_zero, List.set_cons_succ])
        refine wpAnyH_ready (rs := [6]) (by kernel_rfl) (by simp) (AllReadyH.cons (o := { dst := some 11, op := Op.call { callee := Callee.builtin Builtin.append, args := #[Operand.tmp 8, Operand.tmp 10], argTypes := #[41, 41] }, type := 41, pos := _, after := #[{ on := 3, ground := Ground.data }, { on := 5, ground := Ground.data }, { on := 3, ground := Ground.chain }], guard := none }) rfl (fun K hK => ?_) AllReadyH.nil)
        refine step_append_any (by rfl) _ _ 41 (by rfl) w3.heap.size 71 i0 (.agg #[.bool false, .slice none 0 0, .int .u64 0, .int .u64 0]) 4 48 Try.underlying41 hi hz0 hz1 hz2 rfl (by omega) (.slice Av15 n kv15) n cells (by rfl) ownv15 v15.heap.size (some ⟨v11.heap.size, 0, none⟩) 1 1 [.bool ob, .slice Ab kl cb, .int .u64 (nm.toNat : Int), .int .u64 (ky.toNat : Int)] (by rfl) rdx hone4 (by unfold maxLen; omega) (by omega) Bv15.size ?_
        intro A9 c9 w9 own9 gr9 at9
        have B9 := Bv15.grown gr9 Bv15.size (fun k e => (own_from ownv15 k e).1)
        have S9 := addS B9 rfl s0
        refine hK.out _ _ S9 (fun hHeld => ?_)
        clear hK K hHeld
        (try simp only [Act.put, List.setIfInBounds_toArray, List.set_cons_zero, List.set_cons_succ])
        refine wpAnyH_take (i := 7) (oi := { dst := some 12, op := Op.fieldAddr 43 (Operand.tmp 2) 0, type := 0, pos := _, after := #[{ on := 0, ground := Ground.phase }, { on := 1, ground := Ground.phase }, { on := 2, ground := Ground.phase }, { on := 3, ground := Ground.phase }, { on := 4, ground := Ground.phase }, { on := 5, ground := Ground.phase }, { on := 6, ground := Ground.phase }], guard := none }) (v := ?_) rfl (by kernel_rfl) (by kernel_rfl) (by kernel_rfl) (fun _ _ _ h => h) (Or.inl ⟨by rfl, ?_⟩) S9 ?_
        rotate_left
        · intro w hSw; obtain ⟨z1, z2, z3, z4⟩ := hSw; go_simp; try with_reducible rfl
        (try simp only [Act.put, List.setIfInBounds_toArray, List.set_cons_zero, List.set_cons_succ])
        refine wpAnyH_ready (rs := [8]) (by kernel_rfl) (by simp) (AllReadyH.cons (o := { dst := none, op := Op.store 41 (Operand.tmp 12) (Operand.tmp 11), type := 0, pos := _, after := #[{ on := 7, ground := Ground.data }, { on := 6, ground := Ground.data }, { on := 6, ground := Ground.chain }, { on := 0, ground := Ground.phase }, { on := 1, ground := Ground.phase }, { on := 2, ground := Ground.phase }, { on := 3, ground := Ground.phase }, { on := 4, ground := Ground.phase }, { on := 5, ground := Ground.phase }, { on := 6, ground := Ground.phase }], guard := none }) rfl (fun K hK => ?_) AllReadyH.nil)
        have tw9 := htw3.below B9
        have tr9 := htr.below B9
        have f9 := tw9.frozen0
        have z9 := tw9.cell0
        go_simp
        obtain ⟨w10, hw10⟩ : ∃ x, w9.setCell ⟨w.heap.size, 0, none⟩ (.slice A9 (n + 1) c9) = x := ⟨_, rfl⟩
        have g10 : w9.grownBy w10 (some w.heap.size) := by rw [← hw10]; exact set1_grown w9 ⟨w.heap.size, 0, none⟩ (.slice A9 (n + 1) c9)
        have tw10 : Two w10 w.heap.size 43 (.slice A9 (n + 1) c9) (.int .i64 sc) := by rw [← hw10]; exact tw9.set0 _
        have tr10 := tr9.kept g10 (fun e => by injection e with e; omega)
        have S10 := S9.kept g10
        rw [hw10]
        clear hw10 f9 z9
        refine hK.out _ _ S10 (fun hHeld => ?_)
        clear hK K hHeld
        (try simp only [Act.put, List.setIfInBounds_toArray, List.set_cons_zero, List.set_cons_succ])
        refine wpAnyH_done (by kernel_rfl) ?_ _
        have o0 := tw10.cell0
        have o1 := tw10.cell1
        have r0 := tr10.cell0
        have r1 := tr10.cell1
        have r2 := tr10.frozen0
        have r3 := tr10.frozen1
        have hfin := fun W hb => HEND.out w9 w10 W A9 c9 own9 B9 g10 hb
        go_wp2_with fail
        (try simp only [Exit.inBlock, Exit.then])
        refine bodyPost_ret (res_S rfl _ _ _ _ _ rfl ((tr10.set0 (.slice A9 (n + 1) c9)).set1 (.int .i64 sc))) rfl ?_
        exact ⟨_, _, rfl, hfin _ (two_turn _ _)⟩
    · go_simp
      obtain ⟨v16, hv16⟩ : ∃ x, (World.alloc w3 (.cells #[.bool ob, .slice Ab kl cb, .int .u64 (nm.toNat : Int), .int .u64 (ky.toNat : Int)] 71)).drew = x := ⟨_, rfl⟩
      have dv16 : Below w3.drew.heap.size w3.drew v16 := by rw [← hv16]; exact (Below.refl _ _).alloc (Nat.le_refl _) _
      have Bv16 := blater hB3 (Nat.le_refl _) dv16
      have HSv16 := Lib.hid (show v16.heap.size = w3.heap.size + 1 by rw [← hv16]; simp)
      have Sv16 := addS Bv16 rfl s0
      have n1v16 : Reads v16 v16.heap.size 4 (some ⟨w3.heap.size, 0, none⟩) 1 [.bool ob, .slice Ab kl cb, .int .u64 (nm.toNat : Int), .int .u64 (ky.toNat : Int)] := by rw [← hv16]; exact Reads.newS w3.drew [.bool ob, .slice Ab kl cb, .int .u64 (nm.toNat : Int), .int .u64 (ky.toNat : Int)] 71 4 1 rfl
      try rw [hv16]
      clear hv16
      refine hK.out _ _ Sv16 (fun hHeld => ?_)
      clear hK K hHeld
      (try simp only [Act.put, List.setIfInBounds_toArray, List.set_cons_zero, List.set_cons_succ])
      refine wpAnyH_ready (rs := [0]) (by kernel_rfl) (by simp) (AllReadyH.cons (o := { dst := some 5, op := Op.buildSlice 41 0 #[], type := 41, pos := _, after := #[], guard := none }) rfl (fun K hK => ?_) AllReadyH.nil)
      go_simp
      obtain ⟨v17, hv17⟩ : ∃ x, World.alloc v16 (.cells #[] 71) = x := ⟨_, rfl⟩
      have dv17 : Below v16.heap.size v16 v17 := by rw [← hv17]; exact (Below.refl _ _).alloc (Nat.le_refl _) _
      have Bv17 := blater Bv16 (Nat.le_refl _) dv17
      have HSv17 := Lib.hid (show v17.heap.size = v16.heap.size + 1 by rw [← hv17]; simp)
      have Sv17 := addS Bv17 rfl s0
      have rd1v17 := n1v16.later dv17
      have n0v17 : v17.ownsRow w3.heap.size 71 4 (.slice (some ⟨v16.heap.size, 0, none⟩) 0 0) 0 [] := by rw [← hv17]; exact World.ownsRow_lit v16 #[] 0 Bv16.size (by decide) rfl
      try rw [hv17]
      clear hv17
      refine hK.out _ _ Sv17 (fun hHeld => ?_)
      clear hK K hHeld
      (try simp only [Act.put, List.setIfInBounds_toArray, List.set_cons_zero, List.set_cons_succ])
      refine wpAnyH_ready (rs := [3]) (by kernel_rfl) (by simp) (AllReadyH.cons (o := { dst := some 8, op := Op.call { callee := Callee.builtin Builtin.append, args := #[Operand.tmp 5, Operand.tmp 7], argTypes := #[41, 41] }, type := 41, pos := _, after := #[{ on := 0, ground := Ground.data }, { on := 2, ground := Ground.data }], guard := none }) rfl (fun K hK => ?_) AllReadyH.nil)
      have rLv18 := hcl.below Bv17
      refine step_append_any (by rfl) _ _ 41 (by rfl) w3.heap.size 71 i0 (.agg #[.bool false, .slice none 0 0, .int .u64 0, .int .u64 0]) 4 48 Try.underlying41 hi hz0 hz1 hz2 rfl (by omega) (.slice (some ⟨v16.heap.size, 0, none⟩) 0 0) 0 [] (by rfl) n0v17 w3.heap.size A n cap cells (by rfl) rLv18 hone (by unfold maxLen; omega) (by omega) Bv17.size ?_
      intro Av18 kv18 v18 ownv18 grv18 atv18
      simp only [Nat.zero_add, List.nil_append] at ownv18 ⊢
      have Bv18 := Bv17.grown grv18 Bv17.size (fun k e => (own_from n0v17 k e).1)
      have Sv18 := addS Bv18 rfl s0
      have rdx := reads_apart rd1v17 grv18 (fun e => by have q0 := HSv16.out; simp [Value.ownBlock] at e; omega)
      refine hK.out _ _ Sv18 (fun hHeld => ?_)
      clear hK K hHeld
      (try simp only [Act.put, List.setIfInBounds_toArray, List.set_cons_zero, List.set_cons_succ])
      refine wpAnyH_ready (rs := [6]) (by kernel_rfl) (by simp) (AllReadyH.cons (o := { dst := some 11, op := Op.call { callee := Callee.builtin Builtin.append, args := #[Operand.tmp 8, Operand.tmp 10], argTypes := #[41, 41] }, type := 41, pos := _, after := #[{ on := 3, ground := Ground.data }, { on := 5, ground := Ground.data }, { on := 3, ground := Ground.chain }], guard := none }) rfl (fun K hK => ?_) AllReadyH.nil)
      refine step_append_any (by rfl) _ _ 41 (by rfl) w3.heap.size 71 i0 (.agg #[.bool false, .slice none 0 0, .int .u64 0, .int .u64 0]) 4 48 Try.underlying41 hi hz0 hz1 hz2 rfl (by omega) (.slice Av18 n kv18) n cells (by rfl) ownv18 v18.heap.size (some ⟨w3.heap.size, 0, none⟩) 1 1 [.bool ob, .slice Ab kl cb, .int .u64 (nm.toNat : Int), .int .u64 (ky.toNat : Int)] (by rfl) rdx hone4 (by unfold maxLen; omega) (by omega) Bv18.size ?_
      intro A9 c9 w9 own9 gr9 at9
      have B9 := Bv18.grown gr9 Bv18.size (fun k e => (own_from ownv18 k e).1)
      have S9 := addS B9 rfl s0
      refine hK.out _ _ S9 (fun hHeld => ?_)
      clear hK K hHeld
      (try simp only [Act.put, List.setIfInBounds_toArray, List.set_cons_zero, List.set_cons_succ])
      refine wpAnyH_take (i := 7) (oi := { dst := some 12, op := Op.fieldAddr 43 (Operand.tmp 2) 0, type := 0, pos := _, after := #[{ on := 0, ground := Ground.phase }, { on := 1, ground := Ground.phase }, { on := 2, ground := Ground.phase }, { on := 3, ground := Ground.phase }, { on := 4, ground := Ground.phase }, { on := 5, ground := Ground.phase }, { on := 6, ground := Ground.phase }], guard := none }) (v := ?_) rfl (by kernel_rfl) (by kernel_rfl) (by kernel_rfl) (fun _ _ _ h => h) (Or.inl ⟨by rfl, ?_⟩) S9 ?_
      rotate_left
      · intro w hSw; obtain ⟨z1, z2, z3, z4⟩ := hSw; go_simp; try with_reducible rfl
      (try simp only [Act.put, List.setIfInBounds_toArray, List.set_cons_zero, List.set_cons_succ])
      refine wpAnyH_ready (rs := [8]) (by kernel_rfl) (by simp) (AllReadyH.cons (o := { dst := none, op := Op.store 41 (Operand.tmp 12) (Operand.tmp 11), type := 0, pos := _, after := #[{ on := 7, ground := Ground.data }, { on := 6, ground := Ground.data }, { on := 6, ground := Ground.chain }, { on := 0, ground := Ground.phase }, { on := 1, ground := Ground.phase }, { on := 2, ground := Ground.phase }, { on := 3, ground := Ground.phase }, { on := 4, ground := Ground.phase }, { on := 5, ground := Ground.phase }, { on := 6, ground := Ground.phase }], guard := none }) rfl (fun K hK => ?_) AllReadyH.nil)
      have tw9 := htw3.below B9
      have tr9 := htr.below B9
      have f9 := tw9.frozen0
      have z9 := tw9.cell0
      go_simp
      obtain ⟨w10, hw10⟩ : ∃ x, w9.setCell ⟨w.heap.size, 0, none⟩ (.slice A9 (n + 1) c9) = x := ⟨_, rfl⟩
      have g10 : w9.grownBy w10 (some w.heap.size) := by rw [← hw10]; exact set1_grown w9 ⟨w.heap.size, 0, none⟩ (.slice A9 (n + 1) c9)
      have tw10 : Two w10 w.heap.size 43 (.slice A9 (n + 1) c9) (.int .i64 sc) := by rw [← hw10]; exact tw9.set0 _
      have tr10 := tr9.kept g10 (fun e => by injection e with e; omega)
      have S10 := S9.kept g10
      rw [hw10]
      clear hw10 f9 z9
      refine hK.out _ _ S10 (fun hHeld => ?_)
      clear hK K hHeld
      (try simp only [Act.put, List.setIfInBounds_toArray, List.set_cons_zero, List.set_cons_succ])
      refine wpAnyH_done (by kernel_rfl) ?_ _
      have o0 := tw10.cell0
      have o1 := tw10.cell1
      have r0 := tr10.cell0
      have r1 := tr10.cell1
      have r2 := tr10.frozen0
      have r3 := tr10.frozen1
      have hfin := fun W hb => HEND.out w9 w10 W A9 c9 own9 B9 g10 hb
      go_wp2_with fail
      (try simp only [Exit.inBlock, Exit.then])
      refine bodyPost_ret (res_S rfl _ _ _ _ _ rfl ((tr10.set0 (.slice A9 (n + 1) c9)).set1 (.int .i64 sc))) rfl ?_
      exact ⟨_, _, rfl, hfin _ (two_turn _ _)⟩
  · go_simp
    obtain ⟨v19, hv19⟩ : ∃ x, (World.alloc w3 (.cells #[.bool ob, .slice Ab kl cb, .int .u64 (nm.toNat : Int), .int .u64 (ky.toNat : Int)] 71)).drew = x := ⟨_, rfl⟩
    have dv19 : Below w3.drew.heap.size w3.drew v19 := by rw [← hv19]; exact (Below.refl _ _).alloc (Nat.le_refl _) _
    have Bv19 := blater hB3 (Nat.le_refl _) dv19
    have HSv19 := Lib.hid (show v19.heap.size = w3.heap.size + 1 by rw [← hv19]; simp)
    have Sv19 := addS Bv19 rfl s0
    have n1v19 : Reads v19 v19.heap.size 4 (some ⟨w3.heap.size, 0, none⟩) 1 [.bool ob, .slice Ab kl cb, .int .u64 (nm.toNat : Int), .int .u64 (ky.toNat : Int)] := by rw [← hv19]; exact Reads.newS w3.drew [.bool ob, .slice Ab kl cb, .int .u64 (nm.toNat : Int), .int .u64 (ky.toNat : Int)] 71 4 1 rfl
    try rw [hv19]
    clear hv19
    refine hK.out _ _ Sv19 (fun hHeld => ?_)
    clear hK K hHeld
    (try simp only [Act.put, List.setIfInBounds_toArray, List.set_cons_zero, List.set_cons_succ])
    refine wpAnyH_ready (rs := [0, 2]) (by kernel_rfl) (by simp) (AllReadyH.cons (o := { dst := some 5, op := Op.buildSlice 41 0 #[], type := 41, pos := _, after := #[], guard := none }) rfl (fun K hK => ?_) (AllReadyH.cons (o := { dst := some 7, op := Op.load 41 (Operand.tmp 6), type := 41, pos := _, after := #[{ on := 1, ground := Ground.data }], guard := none }) rfl (fun K hK => ?_) AllReadyH.nil))
    · go_simp
      obtain ⟨v20, hv20⟩ : ∃ x, World.alloc v19 (.cells #[] 71) = x := ⟨_, rfl⟩
      have dv20 : Below v19.heap.size v19 v20 := by rw [← hv20]; exact (Below.refl _ _).alloc (Nat.le_refl _) _
      have Bv20 := blater Bv19 (Nat.le_refl _) dv20
      have HSv20 := Lib.hid (show v20.heap.size = v19.heap.size + 1 by rw [← hv20]; simp)
      have Sv20 := addS Bv20 rfl s0
      have rd1v20 := n1v19.later dv20
      have n0v20 : v20.ownsRow w3.heap.size 71 4 (.slice (some ⟨v19.heap.size, 0, none⟩) 0 0) 0 [] := by rw [← hv20]; exact World.ownsRow_lit v19 #[] 0 Bv19.size (by decide) rfl
      try rw [hv20]
      clear hv20
      refine hK.out _ _ Sv20 (fun hHeld => ?_)
      clear hK K hHeld
      (try simp only [Act.put, List.setIfInBounds_toArray, List.set_cons_zero, List.set_cons_succ])
      refine wpAnyH_ready (rs := [2]) (by kernel_rfl) (by simp) (AllReadyH.cons (o := { dst := some 7, op := Op.load 41 (Operand.tmp 6), type := 41, pos := _, after := #[{ on := 1, ground := Ground.data }], guard := none }) rfl (fun K hK => ?_) AllReadyH.nil)
      have zz := (Bv20.cell (cell_lt t0)).trans t0
      go_simp
      refine hK.out _ _ Sv20 (fun hHeld => ?_)
      clear hK K hHeld
      (try simp only [Act.put, List.setIfInBounds_toArray, List.set_cons_zero, List.set_cons_succ])
      clear zz
      refine wpAnyH_ready (rs := [3]) (by kernel_rfl) (by simp) (AllReadyH.cons (o := { dst := some 8, op := Op.call { callee := Callee.builtin Builtin.append, args := #[Operand.tmp 5, Operand.tmp 7], argTypes := #[41, 41] }, type := 41, pos := _, after := #[{ on := 0, ground := Ground.data }, { on := 2, ground := Ground.data }], guard := none }) rfl (fun K hK => ?_) AllReadyH.nil)
      have rLv21 := hcl.below Bv20
      refine step_append_any (by rfl) _ _ 41 (by rfl) w3.heap.size 71 i0 (.agg #[.bool false, .slice none 0 0, .int .u64 0, .int .u64 0]) 4 48 Try.underlying41 hi hz0 hz1 hz2 rfl (by omega) (.slice (some ⟨v19.heap.size, 0, none⟩) 0 0) 0 [] (by rfl) n0v20 w3.heap.size A n cap cells (by rfl) rLv21 hone (by unfold maxLen; omega) (by omega) Bv20.size ?_
      intro Av21 kv21 v21 ownv21 grv21 atv21
      simp only [Nat.zero_add, List.nil_append] at ownv21 ⊢
      have Bv21 := Bv20.grown grv21 Bv20.size (fun k e => (own_from n0v20 k e).1)
      have Sv21 := addS Bv21 rfl s0
      have rdx := reads_apart rd1v20 grv21 (fun e => by have q0 := HSv19.out; simp [Value.ownBlock] at e; omega)
      refine hK.out _ _ Sv21 (fun hHeld => ?_)
      clear hK K hHeld
      (try simp only [Act.put, List.setIfInBounds_toArray, List.set_cons_zero, List.set_cons_succ])
      refine wpAnyH_ready (rs := [6]) (by kernel_rfl) (by simp) (AllReadyH.cons (o := { dst := some 11, op := Op.call { callee := Callee.builtin Builtin.append, args := #[Operand.tmp 8, Operand.tmp 10], argTypes := #[41, 41] }, type := 41, pos := _, after := #[{ on := 3, ground := Ground.data }, { on := 5, ground := Ground.data }, { on := 3, ground := Ground.chain }], guard := none }) rfl (fun K hK => ?_) AllReadyH.nil)
      refine step_append_any (by rfl) _ _ 41 (by rfl) w3.heap.size 71 i0 (.agg #[.bool false, .slice none 0 0, .int .u64 0, .int .u64 0]) 4 48 Try.underlying41 hi hz0 hz1 hz2 rfl (by omega) (.slice Av21 n kv21) n cells (by rfl) ownv21 v21.heap.size (some ⟨w3.heap.size, 0, none⟩) 1 1 [.bool ob, .slice Ab kl cb, .int .u64 (nm.toNat : Int), .int .u64 (ky.toNat : Int)] (by rfl) rdx hone4 (by unfold maxLen; omega) (by omega) Bv21.size ?_
      intro A9 c9 w9 own9 gr9 at9
      have B9 := Bv21.grown gr9 Bv21.size (fun k e => (own_from ownv21 k e).1)
      have S9 := addS B9 rfl s0
      refine hK.out _ _ S9 (fun hHeld => ?_)
      clear hK K hHeld
      (try simp only [Act.put, List.setIfInBounds_toArray, List.set_cons_zero, List.set_cons_succ])
      refine wpAnyH_take (i := 7) (oi := { dst := some 12, op := Op.fieldAddr 43 (Operand.tmp 2) 0, type := 0, pos := _, after := #[{ on := 0, ground := Ground.phase }, { on := 1, ground := Ground.phase }, { on := 2, ground := Ground.phase }, { on := 3, ground := Ground.phase }, { on := 4, ground := Ground.phase }, { on := 5, ground := Ground.phase }, { on := 6, ground := Ground.phase }], guard := none }) (v := ?_) rfl (by kernel_rfl) (by kernel_rfl) (by kernel_rfl) (fun _ _ _ h => h) (Or.inl ⟨by rfl, ?_⟩) S9 ?_
      rotate_left
      · intro w hSw; obtain ⟨z1, z2, z3, z4⟩ := hSw; go_simp; try with_reducible rfl
      (try simp only [Act.put, List.setIfInBounds_toArray, List.set_cons_zero, List.set_cons_succ])
      refine wpAnyH_ready (rs := [8]) (by kernel_rfl) (by simp) (AllReadyH.cons (o := { dst := none, op := Op.store 41 (Operand.tmp 12) (Operand.tmp 11), type := 0, pos := _, after := #[{ on := 7, ground := Ground.data }, { on := 6, ground := Ground.data }, { on := 6, ground := Ground.chain }, { on := 0, ground := Ground.phase }, { on := 1, ground := Ground.phase }, { on := 2, ground := Ground.phase }, { on := 3, ground := Ground.phase }, { on := 4, ground := Ground.phase }, { on := 5, ground := Ground.phase }, { on := 6, ground := Ground.phase }], guard := none }) rfl (fun K hK => ?_) AllReadyH.nil)
      have tw9 := htw3.below B9
      have tr9 := htr.below B9
      have f9 := tw9.frozen0
      have z9 := tw9.cell0
      go_simp
      obtain ⟨w10, hw10⟩ : ∃ x, w9.setCell ⟨w.heap.size, 0, none⟩ (.slice A9 (n + 1) c9) = x := ⟨_, rfl⟩
      have g10 : w9.grownBy w10 (some w.heap.size) := by rw [← hw10]; exact set1_grown w9 ⟨w.heap.size, 0, none⟩ (.slice A9 (n + 1) c9)
      have tw10 : Two w10 w.heap.size 43 (.slice A9 (n + 1) c9) (.int .i64 sc) := by rw [← hw10]; exact tw9.set0 _
      have tr10 := tr9.kept g10 (fun e => by injection e with e; omega)
      have S10 := S9.kept g10
      rw [hw10]
      clear hw10 f9 z9
      refine hK.out _ _ S10 (fun hHeld => ?_)
      clear hK K hHeld
      (try simp only [Act.put, List.setIfInBounds_toArray, List.set_cons_zero, List.set_cons_succ])
      refine wpAnyH_done (by kernel_rfl) ?_ _
      have o0 := tw10.cell0
      have o1 := tw10.cell1
      have r0 := tr10.cell0
      have r1 := tr10.cell1
      have r2 := tr10.frozen0
      have r3 := tr10.frozen1
      have hfin := fun W hb => HEND.out w9 w10 W A9 c9 own9 B9 g10 hb
      go_wp2_with fail
      (try simp only [Exit.inBlock, Exit.then])
      refine bodyPost_ret (res_S rfl _ _ _ _ _ rfl ((tr10.set0 (.slice A9 (n + 1) c9)).set1 (.int .i64 sc))) rfl ?_
      exact ⟨_, _, rfl, hfin _ (two_turn _ _)⟩
    · have zz := (Bv19.cell (cell_lt t0)).trans t0
      go_simp
      refine hK.out _ _ Sv19 (fun hHeld => ?_)
      clear hK K hHeld
      (try simp only [Act.put, List.setIfInBounds_toArray, List.set_cons_zero, List.set_cons_succ])
      clear zz
      refine wpAnyH_ready (rs := [0]) (by kernel_rfl) (by simp) (AllReadyH.cons (o := { dst := some 5, op := Op.buildSlice 41 0 #[], type := 41, pos := _, after := #[], guard := none }) rfl (fun K hK => ?_) AllReadyH.nil)
      go_simp
      obtain ⟨v22, hv22⟩ : ∃ x, World.alloc v19 (.cells #[] 71) = x := ⟨_, rfl⟩
      have dv22 : Below v19.heap.size v19 v22 := by rw [← hv22]; exact (Below.refl _ _).alloc (Nat.le_refl _) _
      have Bv22 := blater Bv19 (Nat.le_refl _) dv22
      have HSv22 := Lib.hid (show v22.heap.size = v19.heap.size + 1 by rw [← hv22]; simp)
      have Sv22 := addS Bv22 rfl s0
      have rd1v22 := n1v19.later dv22
      have n0v22 : v22.ownsRow w3.heap.size 71 4 (.slice (some ⟨v19.heap.size, 0, none⟩) 0 0) 0 [] := by rw [← hv22]; exact World.ownsRow_lit v19 #[] 0 Bv19.size (by decide) rfl
      try rw [hv22]
      clear hv22
      refine hK.out _ _ Sv22 (fun hHeld => ?_)
      clear hK K hHeld
      (try simp only [Act.put, List.setIfInBounds_toArray, List.set_cons_zero, List.set_cons_succ])
      refine wpAnyH_ready (rs := [3]) (by kernel_rfl) (by simp) (AllReadyH.cons (o := { dst := some 8, op := Op.call { callee := Callee.builtin Builtin.append, args := #[Operand.tmp 5, Operand.tmp 7], argTypes := #[41, 41] }, type := 41, pos := _, after := #[{ on := 0, ground := Ground.data }, { on := 2, ground := Ground.data }], guard := none }) rfl (fun K hK => ?_) AllReadyH.nil)
      have rLv23 := hcl.below Bv22
      refine step_append_any (by rfl) _ _ 41 (by rfl) w3.heap.size 71 i0 (.agg #[.bool false, .slice none 0 0, .int .u64 0, .int .u64 0]) 4 48 Try.underlying41 hi hz0 hz1 hz2 rfl (by omega) (.slice (some ⟨v19.heap.size, 0, none⟩) 0 0) 0 [] (by rfl) n0v22 w3.heap.size A n cap cells (by rfl) rLv23 hone (by unfold maxLen; omega) (by omega) Bv22.size ?_
      intro Av23 kv23 v23 ownv23 grv23 atv23
      simp only [Nat.zero_add, List.nil_append] at ownv23 ⊢
      have Bv23 := Bv22.grown grv23 Bv22.size (fun k e => (own_from n0v22 k e).1)
      have Sv23 := addS Bv23 rfl s0
      have rdx := reads_apart rd1v22 grv23 (fun e => by have q0 := HSv19.out; simp [Value.ownBlock] at e; omega)
      refine hK.out _ _ Sv23 (fun hHeld => ?_)
      clear hK K hHeld
      (try simp only [Act.put, List.setIfInBounds_toArray, List.set_cons_zero, List.set_cons_succ])
      refine wpAnyH_ready (rs := [6]) (by kernel_rfl) (by simp) (AllReadyH.cons (o := { dst := some 11, op := Op.call { callee := Callee.builtin Builtin.append, args := #[Operand.tmp 8, Operand.tmp 10], argTypes := #[41, 41] }, type := 41, pos := _, after := #[{ on := 3, ground := Ground.data }, { on := 5, ground := Ground.data }, { on := 3, ground := Ground.chain }], guard := none }) rfl (fun K hK => ?_) AllReadyH.nil)
      refine step_append_any (by rfl) _ _ 41 (by rfl) w3.heap.size 71 i0 (.agg #[.bool false, .slice none 0 0, .int .u64 0, .int .u64 0]) 4 48 Try.underlying41 hi hz0 hz1 hz2 rfl (by omega) (.slice Av23 n kv23) n cells (by rfl) ownv23 v23.heap.size (some ⟨w3.heap.size, 0, none⟩) 1 1 [.bool ob, .slice Ab kl cb, .int .u64 (nm.toNat : Int), .int .u64 (ky.toNat : Int)] (by rfl) rdx hone4 (by unfold maxLen; omega) (by omega) Bv23.size ?_
      intro A9 c9 w9 own9 gr9 at9
      have B9 := Bv23.grown gr9 Bv23.size (fun k e => (own_from ownv23 k e).1)
      have S9 := addS B9 rfl s0
      refine hK.out _ _ S9 (fun hHeld => ?_)
      clear hK K hHeld
      (try simp only [Act.put, List.setIfInBounds_toArray, List.set_cons_zero, List.set_cons_succ])
      refine wpAnyH_take (i := 7) (oi := { dst := some 12, op := Op.fieldAddr 43 (Operand.tmp 2) 0, type := 0, pos := _, after := #[{ on := 0, ground := Ground.phase }, { on := 1, ground := Ground.phase }, { on := 2, ground := Ground.phase }, { on := 3, ground := Ground.phase }, { on := 4, ground := Ground.phase }, { on := 5, ground := Ground.phase }, { on := 6, ground := Ground.phase }], guard := none }) (v := ?_) rfl (by kernel_rfl) (by kernel_rfl) (by kernel_rfl) (fun _ _ _ h => h) (Or.inl ⟨by rfl, ?_⟩) S9 ?_
      rotate_left
      · intro w hSw; obtain ⟨z1, z2, z3, z4⟩ := hSw; go_simp; try with_reducible rfl
      (try simp only [Act.put, List.setIfInBounds_toArray, List.set_cons_zero, List.set_cons_succ])
      refine wpAnyH_ready (rs := [8]) (by kernel_rfl) (by simp) (AllReadyH.cons (o := { dst := none, op := Op.store 41 (Operand.tmp 12) (Operand.tmp 11), type := 0, pos := _, after := #[{ on := 7, ground := Ground.data }, { on := 6, ground := Ground.data }, { on := 6, ground := Ground.chain }, { on := 0, ground := Ground.phase }, { on := 1, ground := Ground.phase }, { on := 2, ground := Ground.phase }, { on := 3, ground := Ground.phase }, { on := 4, ground := Ground.phase }, { on := 5, ground := Ground.phase }, { on := 6, ground := Ground.phase }], guard := none }) rfl (fun K hK => ?_) AllReadyH.nil)
      have tw9 := htw3.below B9
      have tr9 := htr.below B9
      have f9 := tw9.frozen0
      have z9 := tw9.cell0
      go_simp
      obtain ⟨w10, hw10⟩ : ∃ x, w9.setCell ⟨w.heap.size, 0, none⟩ (.slice A9 (n + 1) c9) = x := ⟨_, rfl⟩
      have g10 : w9.grownBy w10 (some w.heap.size) := by rw [← hw10]; exact set1_grown w9 ⟨w.heap.size, 0, none⟩ (.slice A9 (n + 1) c9)
      have tw10 : Two w10 w.heap.size 43 (.slice A9 (n + 1) c9) (.int .i64 sc) := by rw [← hw10]; exact tw9.set0 _
      have tr10 := tr9.kept g10 (fun e => by injection e with e; omega)
      have S10 := S9.kept g10
      rw [hw10]
      clear hw10 f9 z9
      refine hK.out _ _ S10 (fun hHeld => ?_)
      clear hK K hHeld
      (try simp only [Act.put, List.setIfInBounds_toArray, List.set_cons_zero, List.set_cons_succ])
      refine wpAnyH_done (by kernel_rfl) ?_ _
      have o0 := tw10.cell0
      have o1 := tw10.cell1
      have r0 := tr10.cell0
      have r1 := tr10.cell1
      have r2 := tr10.frozen0
      have r3 := tr10.frozen1
      have hfin := fun W hb => HEND.out w9 w10 W A9 c9 own9 B9 g10 hb
      go_wp2_with fail
      (try simp only [Exit.inBlock, Exit.then])
      refine bodyPost_ret (res_S rfl _ _ _ _ _ rfl ((tr10.set0 (.slice A9 (n + 1) c9)).set1 (.int .i64 sc))) rfl ?_
      exact ⟨_, _, rfl, hfin _ (two_turn _ _)⟩
  -- END
end Go.Proofs.Ytfanhbemmjcomaa
