/- hash.Sum, at every label and every list of integers within a million each: H.sum; nothing that lay before has turned. -/
import Derived.Test.YtfanhbemmjcomaaHashIter
namespace Go.Proofs.Ytfanhbemmjcomaa
open Go.RowKit Go.Shelf
attribute [local go_sem] Oper.semAt_some

/-- The words of a list of integers. -/
def wv (l : List Int) : List UInt64 := l.map UInt64.ofInt

theorem wv_len (l : List Int) : (wv l).length = l.length := by simp [wv]
theorem wv_take {l : List Int} {k : Nat} {x : Int} (h : l[k]? = some x) : (wv l).take (k + 1) = (wv l).take k ++ [UInt64.ofInt x] := by
  have : (wv l)[k]? = some (UInt64.ofInt x) := by simp [wv, h]
  rw [List.take_add_one, this]; rfl

theorem KeepB.trans {n₀ Bs : Nat} {A B C : World} (h : KeepB n₀ Bs A B) (k : KeepB n₀ Bs B C) : KeepB n₀ Bs A C :=
  ⟨h.1.trans k.1, fun p hp => (k.2 p hp).trans (h.2 p hp)⟩
theorem cell?_putObj_other (W : World) (l : Nat) (o : Obj) (p : Addr) (h : p.block ≠ l) : (W.putObj l o).cell? p = W.cell? p :=
  World.cell?_of_block (World.putObj_heap_other h)
theorem KeepB.book {n₀ Bs : Nat} {w : World} (hn : n₀ ≤ w.heap.size) (hB : Bs < w.heap.size) (W : World) (l : Nat) (o o' : Obj) (hl : w.heap.size ≤ l) (h : W.heap[l]? = some o) (h1 : o.isCells = false) (h2 : o.isWalk = false) : KeepB n₀ Bs W (W.putObj l o') :=
  ⟨belowK_b hn W l o o' hl h h1 h2, fun p hp => cell?_putObj_other W l o' p (by omega)⟩
theorem KeepB.set {n₀ Bs : Nat} (W : World) (p : Addr) (v : Value) (h : n₀ ≤ p.block) (hne : Bs ≠ p.block) : KeepB n₀ Bs W (W.setCell p v) :=
  ⟨(Below.refl _ _).setCell h _, fun q hq => World.cell?_setCell_other W p q v (fun e => by subst e; exact hne hq.symm)⟩

set_option maxHeartbeats 1000000 in
theorem wordsS_in (n : Nat) (s : ByteArray) (w : World) :
    CallsIn Fence.wide n Try.prog 53 #[.string s] w fun e w' => e = .returned (.func (.func 67) #[] #[.pointer (some ⟨w.heap.size, 0, none⟩)]) ∧ w' = w.alloc (.cells #[.string s] 9) := by
  refine callsIn_of_wp Try.func53 rfl trivial ?_ rfl
  simp only [Try.ntmps53, List.size_toArray, List.length_cons, List.length_nil, Nat.reduceAdd, Nat.reduceSub, Array.replicate_succ, Array.replicate_zero, List.push_toArray, List.append_toArray, List.nil_append, List.cons_append]
  gi_wp2
  go_ret
  exact ⟨rfl, rfl⟩

theorem wordsS_stops (n : Nat) (hn : 1 ≤ n) (Bs n₀ : Nat) (s : ByteArray) (hs : s.size ≤ 1000000) (w : World) (hB : Bs < w.heap.size) (hc : w.cell? ⟨Bs, 0, none⟩ = some (.string s)) :
    SeqStopsK Fence.wide n Try.prog 67 #[.pointer (some ⟨Bs, 0, none⟩)] (fun x : UInt64 => #[Value.int .u64 (x.toNat : Int)]) (KeepB n₀ Bs) (fun ys => ys = H.words s.data.toList) (fun pre => pre <+: H.words s.data.toList) (H.nw s.data.toList) w := fun l J Jx W hW _ _ hY h0 =>
  wordsS1_in Fence.wide n trivial rfl hn l Bs n₀ s hs J Jx hY W ((hW.cell (p := ⟨Bs, 0, none⟩) hB).trans hc) h0

set_option maxRecDepth 100000 in
set_option maxHeartbeats 2000000 in
theorem sum_any (s : ByteArray) (hs : s.size ≤ 1000000) (A : Option Addr) (len cap : Nat) (l : List Int) (hl : l.length = len) (hlen : len ≤ 1000000) (w : World) (hrd : Reads w w.heap.size 1 A len (iv l)) :
    Calls Try.prog 40 #[.string s, .slice A len cap] w fun e W' => e = .returned (.int .u64 ((H.sum s.data.toList (wv l)).toNat : Int)) ∧ Below w.heap.size w W' := by
  have HL := Lib.hid hl
  clear hl
  refine (callsIn_wide (n := 4)).1 ?_
  refine callsIn_of_wp_marks Try.func40 rfl trivial ?_ rfl
  simp only [Try.ntmps40, List.size_toArray, List.length_cons, List.length_nil, Nat.reduceAdd, Nat.reduceSub, Array.replicate_succ, Array.replicate_zero, List.push_toArray, List.append_toArray, List.nil_append, List.cons_append]
  gi_wp2_with (refine ⟨trivial, ?_⟩; gi_at_call 53; refine (wordsS_in _ _ _).mono ?_; rintro e w' ⟨rfl, rfl⟩)
  obtain ⟨W0, hW0⟩ : ∃ W0, (w.alloc (.cells #[.int .u64 0] 23)).alloc (.cells #[.string s] 9) = W0 := ⟨_, rfl⟩
  have hz : W0.heap.size = w.heap.size + 2 := by rw [← hW0]; simp
  have bS : Boxed W0 w.heap.size 23 (.int .u64 0) := by rw [← hW0]; exact (Boxed.new _ _ _).alloc _
  have cL : W0.cell? ⟨w.heap.size + 1, 0, none⟩ = some (.string s) := by
    have := (Boxed.new (w.alloc (.cells #[.int .u64 0] 23)) 9 (.string s)).cell
    rw [World.size_alloc, hW0] at this; exact this
  have hB0 : Below w.heap.size w W0 := by rw [← hW0]; exact ((Below.refl _ w).alloc (Nat.le_refl _) _).alloc (by simp) _
  rw [hW0]
  clear hW0
  have HZ := Lib.hid hz
  clear hz
  refine wpIn_rangeFunc_ownG rfl (by omega) (gf := 67) (lb := #[.pointer (some ⟨w.heap.size + 1, 0, none⟩)]) rfl trivial (enters_of Try.func67 (by kernel_rfl) rfl)
    (wordsS_stops 3 (by omega) (w.heap.size + 1) w.heap.size s hs W0 (by rw [HZ.out]; omega) cL) KeepB.trans (KeepB.book (by rw [HZ.out]; omega) (by rw [HZ.out]; omega)) (Below.refl _ _) (fun _ => rfl)
    (fun pre W => Boxed W w.heap.size 23 (.int .u64 ((H.absorb 0 pre).toNat : Int)) ∧ Below w.heap.size w W)
    (fun _ _ _ => False)
    (OwnFrom.and (Own.from (boxed_own w.heap.size 23 (fun pre => .int .u64 ((H.absorb 0 pre).toNat : Int))) _) (ownFrom_below (Nat.le_refl _) (by rw [HZ.out]; omega)))
    (fun _ _ _ _ _ hs _ _ => hs)
    ⟨bS, hB0⟩
    (fun x => { tmps := #[.string s, .slice A len cap, undef, undef, .int .u64 0, .pointer (some ⟨w.heap.size, 0, none⟩), .int .u64 (x.toNat : Int), undef, undef, .string s, .func (.func 67) #[] #[.pointer (some ⟨w.heap.size + 1, 0, none⟩)], .int .u64 (x.toNat : Int), undef, undef,
          undef, undef, undef, undef, undef, undef, undef, undef, undef, undef, undef, undef, undef, undef, undef,
          undef, undef, undef, undef, undef, undef, undef, undef], defers := [] }) ?assign ?body ?done ?stop
  case assign =>
    intro l x W K hK
    gi_wp2
    exact hK
  case body =>
    rintro l pre x W ⟨hb, hB⟩ hlt
    have hc := hb.cell
    have hf := hb.frozen
    gi_wp2_with (refine ⟨trivial, ?_⟩; gi_at_call 54; refine (CallsIn.inRound l (callsIn_wide.2 (mix_any _ _ _))).mono ?_; rintro e w' ⟨rfl, rfl⟩)
    exact ⟨(KeepsOthers.setCell _ _ _).from _, KeepB.set W _ _ (Nat.le_refl _) (by simp), by rw [H.absorb_snoc]; exact hb.set _, hB.setCell (p := ⟨w.heap.size, 0, none⟩) (Nat.le_refl _) _⟩
  case done =>
    rintro D ys W hD hy ⟨hb, hB⟩ hK
    have HY := Lib.hid hy
    have hDn : w.heap.size < D := by rw [HZ.out] at hD; omega
    clear hy hD
    have hc := hb.cell
    have hf := hb.frozen
    gi_wp2_with (refine ⟨trivial, ?_⟩; gi_at_call 54; refine (callsIn_wide.2 (mix_nat _ _ (by omega) _)).mono ?_; rintro e w' ⟨rfl, rfl⟩)
    obtain ⟨st, hst⟩ : ∃ st, H.mix (H.mix (H.absorb 0 ys) (UInt64.ofNat s.size)) (UInt64.ofNat len) = st := ⟨_, rfl⟩
    rw [hst]
    have HST := Lib.hid hst
    have hb2 := hb.set (.int .u64 (st.toNat : Int))
    have hB2 := hB.setCell (p := ⟨w.heap.size, 0, none⟩) (Nat.le_refl _) (.int .u64 (st.toNat : Int))
    have hK2 : (W.setCell ⟨w.heap.size, 0, none⟩ (.int .u64 (st.toNat : Int))).heap[D]? = some (.deferred (some [])) := (Below.heap_setCell _ _ _ D (by simp; omega)).trans hK
    clear hst hb hB hK hc hf
    gi_loopw [26] (fun i wr => ∃ k : Nat, k ≤ len ∧ i = .int .i64 (k : Int) ∧ Boxed wr w.heap.size 23 (.int .u64 ((H.absorb st ((wv l).take k)).toNat : Int)) ∧ Below w.heap.size w wr ∧ wr.heap[D]? = some (.deferred (some [])))
      (fun i _ => len - (intOf i).toNat)
    case atStart => exact ⟨0, Nat.zero_le _, rfl, hb2, hB2, hK2⟩
    case round =>
      obtain ⟨k, hk, rfl, hb, hB, hK⟩ := hrel
      have hc := hb.cell
      have hf := hb.frozen
      clear hb2 hB2 hK2
      by_cases hlt : k < len
      · obtain ⟨ad, u, rfl, _, hu, hcell⟩ := (hrd.below hB).at_ hlt
        obtain ⟨x, hx, rfl⟩ := iv_at hu
        have HX := Lib.hid hx
        clear hu hx
        gi_wp2_with (refine ⟨trivial, ?_⟩; gi_at_call 54; refine (callsIn_wide.2 (mix_wrap _ _ _)).mono ?_; rintro e w' ⟨rfl, rfl⟩)
        go_roundw
        case rel => exact ⟨k + 1, by omega, by go_num, by rw [wv_take HX.out, H.absorb_snoc]; exact hb.set _, hB.setCell (p := ⟨w.heap.size, 0, none⟩) (Nat.le_refl _) _, (Below.heap_setCell _ _ _ D (by simp; omega)).trans hK⟩
        case measure => simp [intOf]; omega
      · have hkl := Lib.hid (show k = len by omega)
        gi_wp2_with (refine ⟨trivial, ?_⟩; gi_at_call 54; refine (callsIn_wide.2 (mix_zero _ _)).mono ?_; rintro e w' ⟨rfl, rfl⟩)
        refine ⟨by simp, .inl ⟨_, _, rfl, run_takeDeferred hK, ?_⟩⟩
        refine ⟨_, results_tmp rfl _ _ _, ?_, hB.trans (belowK_b (w := w) (Nat.le_refl _) _ D _ _ (by omega) hK rfl rfl)⟩
        have e1 : (wv l).take k = wv l := List.take_of_length_le (by rw [wv_len, HL.out, hkl.out]; exact Nat.le_refl _)
        show Ending.returned (.int .u64 ((H.mix (H.absorb st ((wv l).take k)) 0).toNat : Int)) = _
        rw [e1, H.sum, wv_len, HL.out, H.str_len, ← HST.out, ← HY.out]
  case stop =>
    rintro D c pre W _ _ h _
    exact h.elim
end Go.Proofs.Ytfanhbemmjcomaa
