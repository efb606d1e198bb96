/- The store at its blocks; what turns; New, Get, Lookup, Sync, Bytes, Synced. -/
import Derived.Test.YtfanhbemmjcomaaStFrame
namespace Go.Proofs.Ytfanhbemmjcomaa
open Go.RowKit
set_option linter.unusedVariables false

/-- A block of four cells. -/
def Four (W : World) (g : Nat) (T : TypeId) (a b c d : Value) : Prop := W.heap[g]? = some (.cells #[a, b, c, d] T (0, 0))
section
variable {W W' : World} {g : Nat} {T : TypeId} {a b c d : Value}
theorem Four.lt (h : Four W g T a b c d) : g < W.heap.size := (Array.getElem?_eq_some_iff.1 h).1
theorem Four.cell0 (h : Four W g T a b c d) : W.cell? ⟨g, 0, none⟩ = some a := by simp [World.cell?, show W.heap[g]? = _ from h]
theorem Four.cell1 (h : Four W g T a b c d) : W.cell? ⟨g, 1, none⟩ = some b := by simp [World.cell?, show W.heap[g]? = _ from h]
theorem Four.cell2 (h : Four W g T a b c d) : W.cell? ⟨g, 2, none⟩ = some c := by simp [World.cell?, show W.heap[g]? = _ from h]
theorem Four.cell3 (h : Four W g T a b c d) : W.cell? ⟨g, 3, none⟩ = some d := by simp [World.cell?, show W.heap[g]? = _ from h]
theorem Four.frozen (h : Four W g T a b c d) (k : Nat) : W.frozen? ⟨g, k, none⟩ = false := by simp [World.frozen?, show W.heap[g]? = _ from h]
theorem Four.new (W : World) (T : TypeId) (a b c d : Value) : Four (W.alloc (.cells #[a, b, c, d] T)) W.heap.size T a b c d := World.alloc_heap_new W _
theorem Four.set0 (h : Four W g T a b c d) (u : Value) : Four (W.setCell ⟨g, 0, none⟩ u) g T u b c d := by
  have h' : W.heap[g]? = _ := h
  unfold Four World.setCell
  simp [h', Array.getElem?_modify]
theorem Four.set1 (h : Four W g T a b c d) (u : Value) : Four (W.setCell ⟨g, 1, none⟩ u) g T a u c d := by
  have h' : W.heap[g]? = _ := h
  unfold Four World.setCell
  simp [h', Array.getElem?_modify]
theorem Four.block (h : Four W g T a b c d) (hb : W'.heap[g]? = W.heap[g]?) : Four W' g T a b c d := hb.trans h
theorem Four.below (h : Four W g T a b c d) (hb : Below W.heap.size W W') : Four W' g T a b c d := h.block (hb.block g h.lt)
/-- The block of four is no row of another type. -/
theorem Four.not_row {base : Nat} {e : TypeId} {size n : Nat} {v : Value} {xs : List Value} (h : Four W g T a b c d) (hne : T ≠ e) (hrow : W.ownsRow base e size v n xs) : some g ≠ v.ownBlock := by
  rcases hrow.2 with ⟨rfl, _⟩ | ⟨g', cap, cur, rfl, _, hh, _⟩
  · simp [Value.ownBlock]
  · intro e1
    have : g = g' := by simpa [Value.ownBlock] using e1
    subst this
    have h' : W.heap[g]? = _ := h
    rw [h'] at hh
    injection hh with hh; injection hh with _ ht
    exact hne ht
end

/-- Nothing but the blocks of F and new ones has turned. -/
structure Turn (F : Nat → Prop) (W W' : World) : Prop where
  os : W'.os = W.os
  tape : W'.tape = W.tape
  output : W'.output = W.output
  size : W.heap.size ≤ W'.heap.size
  block : ∀ i, i < W.heap.size → ¬ F i → W'.heap[i]? = W.heap[i]?
section
variable {F G : Nat → Prop} {a b c : World}
theorem Turn.refl (F : Nat → Prop) (w : World) : Turn F w w := ⟨rfl, rfl, rfl, Nat.le_refl _, fun _ _ _ => rfl⟩
theorem Turn.trans (h : Turn F a b) (k : Turn G b c) (hF : ∀ i, G i → F i ∨ a.heap.size ≤ i) : Turn F a c :=
  ⟨k.os.trans h.os, k.tape.trans h.tape, k.output.trans h.output, Nat.le_trans h.size k.size, fun i hi hn =>
    (k.block i (Nat.lt_of_lt_of_le hi h.size) (fun hg => by rcases hF i hg with h1 | h1; exact hn h1; omega)).trans (h.block i hi hn)⟩
theorem Turn.of_below (F : Nat → Prop) (h : Below a.heap.size a b) : Turn F a b := ⟨h.os, h.tape, h.output, h.size, fun i hi _ => h.block i hi⟩
theorem Turn.of_grown {row : Option Nat} (h : a.grownBy b row) (hF : ∀ i, row = some i → F i ∨ a.heap.size ≤ i) : Turn F a b :=
  ⟨h.os, h.tape, h.output, h.size, fun i hi hn => h.block i hi (fun e => by rcases hF i e.symm with h1 | h1; exact hn h1; omega)⟩
theorem Turn.below {B : Nat} (h : Turn F a b) (hB : B ≤ a.heap.size) (hF : ∀ i, F i → B ≤ i) : Below B a b :=
  ⟨h.os, h.tape, h.output, h.size, fun i hi => h.block i (by omega) (fun hf => by have := hF i hf; omega)⟩
/-- What lies apart of F reads as before. -/
theorem Turn.reads {B size n : Nat} {A : Option Addr} {xs : List Value} (h : Turn F a b) (hr : Reads a B size A n xs) (hB : B ≤ a.heap.size) (hf : ∀ ad, A = some ad → ¬ F ad.block) : Reads b B size A n xs :=
  ⟨hr.1, fun hn => by
    obtain ⟨ad, e, hb, hc⟩ := hr.2 hn
    refine ⟨ad, e, hb, fun j u hu => ?_⟩
    rw [← hc j u hu]
    refine World.cell?_of_block ?_
    rw [block_of_add]
    exact h.block _ (by omega) (hf ad e)⟩
end

/-- The store's blocks: the struct's, the two maps', the log's row. -/
def far (g bo bn : Nat) (v : Value) (b : Nat) : Prop := b = g ∨ b = bo ∨ b = bn ∨ v.ownBlock = some b
/-- The log's row is the old one or a new one. -/
def Newer (W : World) (v v' : Value) : Prop := v'.ownBlock = v.ownBlock ∨ ∃ x, v'.ownBlock = some x ∧ W.heap.size ≤ x
theorem Newer.refl (W : World) (v : Value) : Newer W v v := .inl rfl
theorem Newer.far {W : World} {g bo bn : Nat} {v v' : Value} (h : Newer W v v') : ∀ i, far g bo bn v' i → far g bo bn v i ∨ W.heap.size ≤ i := by
  rintro i (h1 | h1 | h1 | h1)
  · exact .inl (.inl h1)
  · exact .inl (.inr (.inl h1))
  · exact .inl (.inr (.inr (.inl h1)))
  · rcases h with h | ⟨x, h, hx⟩
    · exact .inl (.inr (.inr (.inr (h.symm.trans h1))))
    · rw [h] at h1
      injection h1 with h1; subst h1
      exact .inr hx
theorem Newer.trans {W W' : World} {v v' v'' : Value} (h : Newer W v v') (k : Newer W' v' v'') (hs : W.heap.size ≤ W'.heap.size) : Newer W v v'' := by
  rcases k with k | ⟨x, k, hx⟩
  · rcases h with h | ⟨y, h, hy⟩
    · exact .inl (k.trans h)
    · exact .inr ⟨y, k.trans h, hy⟩
  · exact .inr ⟨x, k, Nat.le_trans hs hx⟩
/-- A stored object's value u holds b. -/
def EltAt (W : World) (base : Nat) (F : Nat → Prop) (b : List UInt8) (u : Value) : Prop :=
  ∃ A c, u = .slice A b.length c ∧ b.length ≤ c ∧ c ≤ 9223372036854775807 ∧ Reads W W.heap.size 1 A b.length (bv b) ∧ ∀ ad, A = some ad → base ≤ ad.block ∧ ad.block < W.heap.size ∧ ¬ F ad.block
theorem EltAt.turn {W W' : World} {base : Nat} {F G : Nat → Prop} {b : List UInt8} {u : Value} (h : EltAt W base F b u) (ht : Turn F W W') (hG : ∀ i, G i → F i ∨ W.heap.size ≤ i) : EltAt W' base G b u := by
  obtain ⟨A, c, h1, h2, h3, h4, h5⟩ := h
  exact ⟨A, c, h1, h2, h3, (ht.reads h4 (Nat.le_refl _) (fun ad e => (h5 ad e).2.2)).more ht.size, fun ad e => ⟨(h5 ad e).1, Nat.lt_of_lt_of_le (h5 ad e).2.1 ht.size, fun hg => by
    rcases hG _ hg with h6 | h6
    · exact (h5 ad e).2.2 h6
    · have := (h5 ad e).2.1; omega⟩⟩
def ObjsAt (W : World) (base bo n : Nat) (F : Nat → Prop) (L : List S.R) : Prop :=
  ∃ f, MapAt W bo n f ∧ ∀ x, (S.get L x = none → f x = none) ∧ ∀ b, S.get L x = some b → ∃ u, f x = some u ∧ EltAt W base F b u
theorem ObjsAt.turn {W W' : World} {base bo n : Nat} {F G : Nat → Prop} {L : List S.R} (h : ObjsAt W base bo n F L) (ht : Turn F W W') (hb : W'.heap[bo]? = W.heap[bo]?) (hG : ∀ i, G i → F i ∨ W.heap.size ≤ i) : ObjsAt W' base bo n G L := by
  obtain ⟨f, h1, h2⟩ := h
  exact ⟨f, h1.block hb, fun x => ⟨(h2 x).1, fun b hx => by
    obtain ⟨u, h3, h4⟩ := (h2 x).2 b hx
    exact ⟨u, h3, h4.turn ht hG⟩⟩⟩
/-- The store at its blocks. -/
structure StAt (W : World) (base g bo bn : Nat) (v : Value) (L : List S.R) (sy : Nat) : Prop where
  hg : base ≤ g
  hbo : base ≤ bo
  hbn : base ≤ bn
  hne : bo ≠ bn
  hbase : base ≤ W.heap.size
  four : Four W g 76 v (.int .i64 (sy : Int)) (.map (some bo)) (.map (some bn))
  row : W.ownsRow base 5 1 v (S.log L).length (bv (S.log L))
  objs : ObjsAt W base bo L.length (far g bo bn v) L
  names : MapAt W bn L.length (fun x => (S.look L x).map fun k => .int .u64 (k.toNat : Int))
  sync : sy ≤ (S.log L).length
  small : S.Small L
  few : L.length ≤ 200
section
variable {W W' : World} {base g bo bn sy : Nat} {v : Value} {L : List S.R}
theorem StAt.far_base (h : StAt W base g bo bn v L sy) : ∀ i, far g bo bn v i → base ≤ i := by
  rintro i (h1 | h1 | h1 | h1)
  · rw [h1]; exact h.hg
  · rw [h1]; exact h.hbo
  · rw [h1]; exact h.hbn
  · exact (own_from h.row i h1).1
theorem StAt.far_lt (h : StAt W base g bo bn v L sy) : ∀ i, far g bo bn v i → i < W.heap.size := by
  obtain ⟨f, hf, _⟩ := h.objs
  rintro i (h1 | h1 | h1 | h1)
  · rw [h1]; exact h.four.lt
  · rw [h1]; exact hf.lt
  · rw [h1]; exact h.names.lt
  · exact (own_from h.row i h1).2
theorem StAt.later (h : StAt W base g bo bn v L sy) (hb : Below W.heap.size W W') : StAt W' base g bo bn v L sy := by
  obtain ⟨f, hf, _⟩ := id h.objs
  exact ⟨h.hg, h.hbo, h.hbn, h.hne, Nat.le_trans h.hbase hb.size, h.four.below hb, own_below h.row hb, h.objs.turn (Turn.of_below _ hb) (hb.block bo hf.lt) (fun i hi => .inl hi), h.names.below hb, h.sync, h.small, h.few⟩
theorem StAt.len (h : StAt W base g bo bn v L sy) : (S.log L).length ≤ 13120000 := by
  have h1 := S.log_len h.small
  have h2 := h.few
  have h3 : 65600 * L.length ≤ 65600 * 200 := Nat.mul_le_mul_left _ h2
  omega
end
theorem set1_grown (W : World) (p : Addr) (v : Value) : W.grownBy (W.setCell p v) (some p.block) :=
  ⟨rfl, rfl, rfl, by simp [World.setCell], fun k _ hk => Below.heap_setCell _ _ _ k (fun e => hk (by rw [e]))⟩
theorem zeroSl (w : World) : (zeroValue 22).run Try.prog w = .ok (.slice none 0 0) w := by kernel_rfl
theorem zeroU64 (w : World) : (zeroValue 23).run Try.prog w = .ok (.int .u64 0) w := by kernel_rfl

set_option maxHeartbeats 400000 in
theorem new_any (w : World) :
    Calls Try.prog 11 #[] w fun e w' => ∃ g bo bn, e = .returned (.pointer (some ⟨g, 0, none⟩)) ∧ StAt w' w.heap.size g bo bn (.slice none 0 0) [] 0 ∧ Below w.heap.size w w' := by
  have hmm := @run_makeMap Try.prog
  go_enter Try.func11, Try.ntmps11
  go_wp2
  go_ret
  have m1 := MapAt.made w
  have m2 := MapAt.made (w.alloc (.map #[] 0))
  have hb2 := (Below.refl (w.alloc (.map #[] 0)).heap.size (w.alloc (.map #[] 0))).alloc (Nat.le_refl _) (.map #[] 0)
  have hb3 := (Below.refl ((w.alloc (.map #[] 0)).alloc (.map #[] 0)).heap.size ((w.alloc (.map #[] 0)).alloc (.map #[] 0))).alloc (Nat.le_refl _) (.cells #[.slice none 0 0, .int .i64 0, .map (some w.heap.size), .map (some (w.heap.size + 1))] 76)
  have m1 := (m1.below hb2).below hb3
  have m2 := m2.below hb3
  rw [World.size_alloc] at m2
  have hfo := Four.new ((w.alloc (.map #[] 0)).alloc (.map #[] 0)) 76 (.slice none 0 0) (.int .i64 0) (.map (some w.heap.size)) (.map (some (w.heap.size + 1)))
  rw [World.size_alloc, World.size_alloc] at hfo
  refine ⟨_, _, _, rfl, ⟨?_, Nat.le_refl _, Nat.le_succ _, by omega, by simp; omega, hfo, World.ownsRow_nil _ _ _ _, ⟨_, m1, fun x => ⟨fun _ => rfl, fun b h => by cases h⟩⟩, m2.congr fun x => rfl, Nat.le_refl _, S.Small.nil, by simp⟩, (((Below.refl _ _).alloc (Nat.le_refl _) _).alloc (by simp) _).alloc (by simp; omega) _⟩
  omega

set_option maxHeartbeats 400000 in
theorem synced_any (base g bo bn sy : Nat) (v : Value) (L : List S.R) (w : World) (h : StAt w base g bo bn v L sy) :
    Calls Try.prog 29 #[.pointer (some ⟨g, 0, none⟩)] w fun e w' => e = .returned (.int .i64 (sy : Int)) ∧ w = w' := by
  have hc1 := h.four.cell1
  clear h
  go_enter Try.func29, Try.ntmps29
  go_wp2
  go_ret
  exact ⟨rfl, rfl⟩
set_option maxHeartbeats 400000 in
theorem sbytes_any (base g bo bn sy n : Nat) (v : Value) (L : List S.R) (hn : (S.log L).length = n) (w : World) (h : StAt w base g bo bn v L sy) :
    Calls Try.prog 19 #[.pointer (some ⟨g, 0, none⟩)] w fun e w' => ∃ A c, e = .returned (.slice A n c) ∧ n ≤ c ∧ w'.ownsRow w.heap.size 5 1 (.slice A n c) n (bv (S.log L)) ∧ Below w.heap.size w w' := by
  have hl := h.len
  rw [hn] at hl
  have hc0 := h.four.cell0
  have hrow := h.row
  rw [hn] at hrow
  obtain ⟨A, c, rfl, hc, hr, _⟩ := own_reads hrow
  clear h hrow hn
  go_enter Try.func19, Try.ntmps19
  go_wp2_with fail
  refine (clone_any A n c (S.log L) (by omega) w.heap.size w (Nat.le_refl _) hr).mono ?_
  rintro e w1 ⟨v, rfl, hown, hb⟩
  go_wp2_with fail
  go_ret
  obtain ⟨A', c', rfl, hc', _, h'⟩ := own_reads hown
  exact ⟨A', c', rfl, hc', h', hb⟩
set_option maxHeartbeats 400000 in
theorem sync_any (base g bo bn sy : Nat) (v : Value) (L : List S.R) (w : World) (h : StAt w base g bo bn v L sy) :
    Calls Try.prog 42 #[.pointer (some ⟨g, 0, none⟩)] w fun e w' => e = .returned (.tuple #[]) ∧ StAt w' base g bo bn v L (S.log L).length ∧ Turn (far g bo bn v) w w' := by
  have hl := h.len
  obtain ⟨n, hn⟩ : ∃ n, (S.log L).length = n := ⟨_, rfl⟩
  have hc0 := h.four.cell0
  have hf1 := h.four.frozen 1
  have hrow := h.row
  rw [hn] at hrow
  obtain ⟨A, c, rfl, hc, hr, _⟩ := own_reads hrow
  have HN := Lib.hid hn
  have hc1 := h.four.cell1
  clear hn hrow
  go_enter Try.func42, Try.ntmps42
  go_wp2
  go_end0
  have hk := set1_grown w ⟨g, 1, none⟩ (.int .i64 (n : Int))
  have ht : Turn (far g bo bn (.slice A n c)) w (w.setCell ⟨g, 1, none⟩ (.int .i64 (n : Int))) := Turn.of_grown hk (fun i e => .inl (.inl (by injection e with e; exact e.symm)))
  obtain ⟨f, hf, _⟩ := id h.objs
  have hgo : some bo ≠ some g := by
    intro e; injection e with e; subst e
    obtain ⟨es, cl, hm⟩ := hf.isMap
    have hq : w.heap[bo]? = _ := h.four
    rw [hq] at hm; cases hm
  have hgn : some bn ≠ some g := by
    intro e; injection e with e; subst e
    obtain ⟨es, cl, hm⟩ := h.names.isMap
    have hq : w.heap[bn]? = _ := h.four
    rw [hq] at hm; cases hm
  refine ⟨rfl, ⟨h.hg, h.hbo, h.hbn, h.hne, by rw [show (w.setCell ⟨g, 1, none⟩ (.int .i64 (n : Int))).heap.size = w.heap.size by simp [World.setCell]]; exact h.hbase, by rw [HN.out]; exact h.four.set1 _, h.row.kept hk (.inr (h.four.not_row (by decide) h.row).symm), h.objs.turn ht (hk.block bo hf.lt hgo) (fun i hi => .inl hi), h.names.kept hk hgn, Nat.le_refl _, h.small, h.few⟩, ht⟩
end Go.Proofs.Ytfanhbemmjcomaa
