/- Words for memory shared by all seats: lists as the model holds them, rows that came in, rows of the call's own, what lies below. No program in sight. -/
import Derived.Test.YtfanhbemmjcomaaMem
import Derived.RangeFuncBox
import Derived.WalkKit
import Derived.WalkSpells
import Derived.WalkLawsBesides
import Derived.Laws.Bits64
import Derived.Laws.BitsAllLaws
import Derived.Laws.IdiomStrings
import Derived.Lib.Hide
namespace Go.Proofs.Ytfanhbemmjcomaa
open Go.RowKit
set_option linter.unusedVariables false

theorem str_len (s : ByteArray) : s.data.toList.length = s.size := by simp
/-- Bytes as the model holds them. -/
def bv (l : List UInt8) : List Value := l.map fun c => .int .u8 (c.toNat : Int)
theorem bv_at {l : List UInt8} {i : Nat} {u : Value} (h : (bv l)[i]? = some u) : ∃ c, l[i]? = some c ∧ u = .int .u8 (c.toNat : Int) := by
  unfold bv at h
  rw [List.getElem?_map] at h
  cases hc : l[i]? with
  | none => rw [hc] at h; cases h
  | some c => rw [hc] at h; exact ⟨c, rfl, by injection h with h; exact h.symm⟩
/-- Integers as the model holds them. -/
def iv (l : List Int) : List Value := l.map (Value.int .i64)
theorem iv_at {l : List Int} {i : Nat} {u : Value} (h : (iv l)[i]? = some u) : ∃ x, l[i]? = some x ∧ u = .int .i64 x := by
  unfold iv at h
  rw [List.getElem?_map] at h
  cases hc : l[i]? with
  | none => rw [hc] at h; cases h
  | some c => rw [hc] at h; exact ⟨c, rfl, by injection h with h; exact h.symm⟩
/-- What is no cells lies on behind an append to a row of the call's own. -/
theorem other_grown {W w1 : World} {n₀ D : Nat} {e : TypeId} {size : Nat} {v : Value} {k : Nat} {xs : List Value} {tmp o : Obj} (hK : W.heap[D]? = some o) (ho : o.isCells = false)
    (hrow : W.ownsRow n₀ e size v k xs) (hgrow : (W.alloc tmp).grownBy w1 v.ownBlock) : w1.heap[D]? = some o := by
  have hlt : D < W.heap.size := (Array.getElem?_eq_some_iff.1 hK).1
  refine ((hgrow.block D (by simp; omega) ?_).trans (Below.heap_alloc W tmp D hlt)).trans hK
  rcases hrow.2 with ⟨rfl, _⟩ | ⟨g, cap, cur, rfl, _, hgb, _⟩
  · simp [Value.ownBlock]
  · intro ej
    obtain rfl : D = g := by simpa [Value.ownBlock] using ej
    rw [hgb] at hK; cases hK; cases ho
theorem below_appended {W w1 : World} {n₀ : Nat} {e : TypeId} {size : Nat} {v : Value} {k : Nat} {xs : List Value} {tmp : Obj}
    (hrow : W.ownsRow n₀ e size v k xs) (hn₀ : n₀ ≤ W.heap.size) (hgrow : (W.alloc tmp).grownBy w1 v.ownBlock) : Below n₀ W w1 := by
  refine ((Below.refl n₀ W).alloc hn₀ tmp).grown hgrow (by simp; omega) fun j ej => ?_
  rcases hrow.2 with ⟨rfl, _⟩ | ⟨g, cap, cur, rfl, hb, _, _⟩
  · simp [Value.ownBlock] at ej
  · obtain rfl : g = j := by simpa [Value.ownBlock] using ej
    exact hb
/-- uint64s as the model holds them. -/
def uvs (l : List UInt64) : List Value := l.map fun x => .int .u64 (x.toNat : Int)
theorem uvs_at {l : List UInt64} {i : Nat} {u : Value} (h : (uvs l)[i]? = some u) : ∃ x, l[i]? = some x ∧ u = .int .u64 (x.toNat : Int) := by
  unfold uvs at h
  rw [List.getElem?_map] at h
  cases hc : l[i]? with
  | none => rw [hc] at h; cases h
  | some c => rw [hc] at h; exact ⟨c, rfl, by injection h with h; exact h.symm⟩
theorem reads_bytesRow (w : World) (s : ByteArray) (cap : Nat) (e : TypeId) (fr : Nat × Nat) : Reads (w.alloc (.cells (bytesRow s cap) e fr)) (w.heap.size + 1) 1 (some ⟨w.heap.size, 0, none⟩) s.size (bv s.data.toList) := by
  refine ⟨by simp [bv], fun hn => ⟨_, rfl, by simp, fun j u hu => ?_⟩⟩
  have hj : j < s.size := by
    have := (List.getElem?_eq_some_iff.1 hu).1
    simpa [bv, str_len] using this
  have e1 : (⟨w.heap.size, 0, none⟩ : Addr).add j = ⟨w.heap.size, j, none⟩ := by
    unfold Addr.add
    split <;> simp_all
  rw [e1, World.cell?_alloc_mark]
  unfold bytesRow
  have hjd : j < s.data.size := hj
  rw [Array.getElem?_append_left (by simpa using hjd)]
  rw [← hu]
  simp [bv]
/-- A block just laid, read from its head. -/
theorem Reads.new (w : World) (cs : List Value) (t : TypeId) (n : Nat) (hn : cs.length = n) : Reads (w.alloc (.cells cs.toArray t)) (w.alloc (.cells cs.toArray t)).heap.size 1 (some ⟨w.heap.size, 0, none⟩) n cs := by
  refine ⟨by omega, fun _ => ⟨_, rfl, by simp, fun j u hu => ?_⟩⟩
  have e1 : (⟨w.heap.size, 0, none⟩ : Addr).add j = ⟨w.heap.size, j, none⟩ := by
    unfold Addr.add
    split <;> simp_all
  rw [e1]
  have := World.cell?_alloc_mark w cs.toArray t (0, 0) j
  rw [this]
  simpa using hu
def arN (n m : Int) : Int := (if n < 0 then -(n + 1) else n) % m
theorem arN_bd (n m : Int) (h : 1 ≤ m) : 0 ≤ arN n m ∧ arN n m < m := by
  unfold arN
  exact ⟨Int.emod_nonneg _ (by omega), Int.emod_lt_of_pos _ (by omega)⟩
theorem arN_neg {n m : Int} (h : n < 0) : -(n + 1).tmod m = arN n m := by
  unfold arN
  rw [if_pos h, ← Int.neg_tmod, Int.tmod_eq_emod_of_nonneg (by omega)]
theorem arN_pos {n m : Int} (h : 0 ≤ n) : n % m = arN n m := by
  unfold arN
  rw [if_neg (by omega)]
theorem ret_i64 {a b : Int} (h : a = b) : Ending.returned (.int .i64 a) = .returned (.int .i64 b) := by rw [h]
theorem ints_one (l : List Int) : ∀ u ∈ iv l, u.oneCell' = true := by
  intro u hu
  unfold iv at hu
  obtain ⟨x, _, rfl⟩ := List.mem_map.1 hu
  rfl
theorem ints_len (l : List Int) : (iv l).length = l.length := by simp [iv]
theorem ints_take (l : List Int) (k : Nat) : iv (l.take k) = (iv l).take k := by simp [iv, List.map_take]
theorem few_one (l : List UInt8) : ∀ u ∈ bv l, u.oneCell' = true := by
  intro u hu
  unfold bv at hu
  obtain ⟨x, _, rfl⟩ := List.mem_map.1 hu
  rfl
theorem few_len (l : List UInt8) : (bv l).length = l.length := by simp [bv]
theorem few_take (l : List UInt8) (k : Nat) : bv (l.take k) = (bv l).take k := by simp [bv, List.map_take]
/-- Two lists agree in their first k places. -/
def Agree {α : Type} (l m : List α) (k : Nat) : Prop := ∀ j : Nat, j < k → l[j]? = m[j]?
theorem Agree.zero {α : Type} (l m : List α) : Agree l m 0 := fun j hj => absurd hj (by omega)
theorem Agree.succ {α : Type} {l m : List α} {k : Nat} (h : Agree l m k) (e : l[k]? = m[k]?) : Agree l m (k + 1) := fun j hj => by
  by_cases hj2 : j = k
  · rw [hj2, e]
  · exact h j (by omega)
theorem Agree.all {α : Type} {l m : List α} {k : Nat} (h : Agree l m k) (hl : l.length ≤ k) (hm : m.length ≤ k) : l = m := by
  apply List.ext_getElem?
  intro i
  by_cases hi : i < k
  · exact h i hi
  · rw [List.getElem?_eq_none (by omega), List.getElem?_eq_none (by omega)]
/-- A slice of integers that came in: it is nil; or it leads to a row of 'cap' cells, the numbers zs (the first 'len' are its elements), each fitting its kind. -/
def IsRow (k : IntKind) (w : World) (a : Option Addr) (len cap : Nat) (zs : List Int) : Prop :=
  (a = none ∧ len = 0 ∧ cap = 0 ∧ zs = []) ∨
  ∃ x, a = some x ∧ len ≤ cap ∧ cap ≤ maxLen ∧ zs.length = cap ∧ (∀ i, i < zs.length → w.cell? (x.add i) = some (.int k (zs.getD i 0))) ∧ ∀ n ∈ zs, (Lit.int k n).wf = true
theorem cell_lt {w : World} {p : Addr} {v : Value} (h : w.cell? p = some v) : p.block < w.heap.size := by
  rcases Nat.lt_or_ge p.block w.heap.size with hlt | hge
  · exact hlt
  · have hn : w.heap[p.block]? = none := Array.getElem?_eq_none hge
    unfold World.cell? at h
    rw [hn] at h
    cases h
theorem isRow_ints {w : World} {a : Option Addr} {len cap : Nat} {zs : List Int} (h : IsRow .i64 w a len cap zs) :
    ∃ l : List Int, l.length = len ∧ len ≤ cap ∧ cap ≤ 9223372036854775807 ∧ Reads w w.heap.size 1 a len (iv l) ∧ ∀ n ∈ l, (Lit.int .i64 n).wf = true := by
  rcases h with ⟨rfl, rfl, rfl, rfl⟩ | ⟨x, rfl, hl, hm, hz, hc, hw⟩
  · exact ⟨[], rfl, Nat.le_refl _, by omega, Reads.none_, by simp⟩
  · refine ⟨zs.take len, by simp; omega, hl, hm, ⟨by simp [iv]; omega, fun hn => ⟨x, rfl, ?_, fun j u hu => ?_⟩⟩, fun n hn => hw n (List.mem_of_mem_take hn)⟩
    · have := cell_lt (hc 0 (by omega))
      rwa [block_of_add] at this
    · obtain ⟨y, hy, rfl⟩ := iv_at hu
      rw [List.getElem?_take] at hy
      split at hy
      · have hj : j < zs.length := by omega
        rw [hc j hj, List.getD, hy]; rfl
      · cases hy
def toByte (n : Int) : UInt8 := UInt8.ofNat n.toNat
theorem toByte_back {n : Int} (h : (Lit.int .u8 n).wf = true) : ((toByte n).toNat : Int) = n := by
  have hx : 0 ≤ n ∧ n ≤ 255 := by simpa [Lit.wf, IntKind.min, IntKind.max, IntKind.signed, IntKind.bits] using h
  unfold toByte
  rw [UInt8.toNat_ofNat_of_lt' (by show _ < 256; omega)]
  omega
theorem isRow_bytes {w : World} {a : Option Addr} {len cap : Nat} {zs : List Int} (h : IsRow .u8 w a len cap zs) :
    ∃ l : List UInt8, l.length = len ∧ len ≤ cap ∧ cap ≤ 9223372036854775807 ∧ Reads w w.heap.size 1 a len (bv l) := by
  rcases h with ⟨rfl, rfl, rfl, rfl⟩ | ⟨x, rfl, hl, hm, hz, hc, hw⟩
  · exact ⟨[], rfl, Nat.le_refl _, by omega, Reads.none_⟩
  · refine ⟨(zs.take len).map toByte, by simp; omega, hl, hm, ⟨by simp [bv]; omega, fun hn => ⟨x, rfl, ?_, fun j u hu => ?_⟩⟩⟩
    · have := cell_lt (hc 0 (by omega))
      rwa [block_of_add] at this
    · obtain ⟨y, hy, rfl⟩ := bv_at hu
      rw [List.getElem?_map, List.getElem?_take] at hy
      split at hy
      · have hj : j < zs.length := by omega
        rw [List.getElem?_eq_getElem hj] at hy
        injection hy with hy
        rw [← hy, toByte_back (hw _ (List.getElem_mem hj)), hc j hj, List.getD, List.getElem?_eq_getElem hj]; rfl
      · cases hy
theorem wf_bd {n : Int} (h : (Lit.int .i64 n).wf = true) : -9223372036854775808 ≤ n ∧ n ≤ 9223372036854775807 := by
  simpa [Lit.wf, IntKind.min, IntKind.max, IntKind.signed, IntKind.bits] using h
theorem below_new {B : Nat} {w w1 : World} (o : Obj) (hB : B ≤ w.heap.size) (h : Below (w.alloc o).heap.size (w.alloc o) w1) : Below B w w1 :=
  ((Below.refl B w).alloc hB o).trans (h.mono (by simp; omega))
theorem ne_form {x y : UInt64} (h : x ≠ y) : ((x.toNat : Int) != (y.toNat : Int)) = true := by
  rw [bne_iff_ne]; intro e; exact h (UInt64.toNat_inj.1 (by omega))
theorem eq_form {x y : UInt64} (h : x ≠ y) : ((x.toNat : Int) == (y.toNat : Int)) = false := by
  rw [beq_eq_false_iff_ne]; intro e; exact h (UInt64.toNat_inj.1 (by omega))
theorem below_drewN' {B : Nat} {a w : World} (h : Below B a w) (n : Nat) : Below B a (w.drewN n) := ⟨h.os, h.tape, h.output, h.size, h.block⟩
theorem Reads.later {w w' : World} {size n : Nat} {A : Option Addr} {xs : List Value} (h : Reads w w.heap.size size A n xs) (hb : Below w.heap.size w w') : Reads w' w'.heap.size size A n xs := (h.below hb).more hb.size
theorem blater {B : Nat} {a w w' : World} (h : Below B a w) (hB : B ≤ a.heap.size) (k : Below w.heap.size w w') : Below B a w' := h.trans (k.mono (Nat.le_trans hB h.size))
theorem own_below {w w' : World} {base : Nat} {e : TypeId} {size n : Nat} {v : Value} {xs : List Value} (h : w.ownsRow base e size v n xs) (hb : Below w.heap.size w w') : w'.ownsRow base e size v n xs := by
  refine h.kept (row := none) ⟨hb.os, hb.tape, hb.output, hb.size, fun i hi _ => hb.block i hi⟩ ?_
  rcases h.2 with ⟨rfl, _⟩ | ⟨g, cap, cur, rfl, _⟩
  · exact .inl rfl
  · exact .inr (by simp [Value.ownBlock])
theorem own_cap {w : World} {base : Nat} {e : TypeId} {size n c : Nat} {A : Option Addr} {xs : List Value} (h : w.ownsRow base e size (.slice A n c) n xs) : c ≤ 9223372036854775807 := by
  rcases h.2 with ⟨h', _⟩ | ⟨g, cap, cur, h', _, _, _, hcm, _⟩
  · injection h' with _ _ h3; omega
  · injection h' with _ _ h3; unfold maxLen at hcm; omega
theorem own_head {w : World} {base : Nat} {e : TypeId} {size k c : Nat} {A : Option Addr} {xs : List Value} (h : w.ownsRow base e size (.slice A (k + 1) c) (k + 1) xs) : ∃ g, A = some ⟨g, 0, none⟩ ∧ base ≤ g ∧ g < w.heap.size := by
  obtain ⟨g, cap, hv, hb, hlt⟩ := h.form (by omega)
  injection hv with h1
  exact ⟨g, h1, hb, hlt⟩
theorem own_le {w : World} {base : Nat} {e : TypeId} {size n c : Nat} {A : Option Addr} {xs : List Value} (h : w.ownsRow base e size (.slice A n c) n xs) : n ≤ c := by
  rcases h.2 with ⟨h', h0⟩ | ⟨g, cap, cur, h', _, _, hnc, _⟩
  · injection h' with _ _ h3; omega
  · injection h' with _ _ h3; omega
theorem iv_snoc7 (l : List Int) (n : Int) : iv l ++ [.int .i64 n] = iv (l ++ [n]) := by simp [iv]
theorem iv_set (l : List Int) (k : Nat) (n : Int) : (iv l).set k (.int .i64 n) = iv (l.set k n) := by simp [iv, List.map_set]
theorem iv_getElem (l : List Int) (k : Nat) (x : Int) (h : l[k]? = some x) : (iv l)[k]? = some (.int .i64 x) := by simp [iv, h]
theorem beq_form {x y : UInt64} {p : Prop} [Decidable p] (h : x = y ↔ p) : ((x.toNat : Int) == (y.toNat : Int)) = decide p := by
  by_cases hp : p
  · rw [decide_eq_true hp, h.2 hp]; simp
  · rw [decide_eq_false hp]; exact eq_form (fun e => hp (h.1 e))
theorem bv_snoc (l : List UInt8) (c : UInt8) : bv l ++ [.int .u8 (c.toNat : Int)] = bv (l ++ [c]) := by simp [bv]
theorem bv_set (l : List UInt8) (k : Nat) (c : UInt8) : (bv l).set k (.int .u8 (c.toNat : Int)) = bv (l.set k c) := by simp [bv, List.map_set]
theorem bv_getElem (l : List UInt8) (k : Nat) (x : UInt8) (h : l[k]? = some x) : (bv l)[k]? = some (.int .u8 (x.toNat : Int)) := by simp [bv, h]
theorem xor8 (a b : UInt8) : bits BinOp.xor IntKind.u8 (a.toNat : Int) (b.toNat : Int) = ((a ^^^ b).toNat : Int) := by
  rw [u8_xor_nat _ _ a.toNat_lt b.toNat_lt, UInt8.toNat_xor]
theorem wf_u8 {n : Int} (h : (Lit.int .u8 n).wf = true) : ∃ x : UInt8, n = (x.toNat : Int) := ⟨toByte n, (toByte_back h).symm⟩
/-- A uint64 that came in. -/
theorem wf_u64 {n : Int} (h : (Lit.int .u64 n).wf = true) : ∃ x : UInt64, n = (x.toNat : Int) := by
  have hx : 0 ≤ n ∧ n ≤ 18446744073709551615 := by simpa [Lit.wf, IntKind.min, IntKind.max, IntKind.signed, IntKind.bits] using h
  exact ⟨UInt64.ofNat n.toNat, by rw [UInt64.toNat_ofNat_of_lt' (by show _ < 18446744073709551616; omega)]; omega⟩
end Go.Proofs.Ytfanhbemmjcomaa
