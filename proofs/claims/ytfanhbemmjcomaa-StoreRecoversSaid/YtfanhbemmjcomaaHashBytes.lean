/- hash.Bytes and hash.Pair, at every label and byte slice within a million each: H.bytes, H.pair; nothing that lay before has turned. -/
import Derived.Test.YtfanhbemmjcomaaHashSum
namespace Go.Proofs.Ytfanhbemmjcomaa
open Go.RowKit Go.Shelf
attribute [local go_sem] Oper.semAt_some


/-- A word as an int. -/
def xv (x : UInt64) : Value := .int .i64 (wrap64 (x.toNat : Int))
theorem ofInt_wrap (x : UInt64) : UInt64.ofInt (wrap64 (x.toNat : Int)) = x := by
  have hx := H.u64_lt x
  have h : ((UInt64.ofInt (wrap64 (x.toNat : Int))).toNat : Int) = (x.toNat : Int) := by
    rw [← H.wrap_ofInt, IntKind.wrap_u64]
    unfold wrap64
    omega
  exact UInt64.toNat_inj.1 (by omega)
theorem ofInt_nat (n : Nat) (h : n ≤ 2000000) : UInt64.ofInt (n : Int) = UInt64.ofNat n := by
  have : ((UInt64.ofInt (n : Int)).toNat : Int) = ((UInt64.ofNat n).toNat : Int) := by
    rw [← H.wrap_ofInt, H.ofNat_toNat (by omega), IntKind.wrap_u64]
    omega
  exact UInt64.toNat_inj.1 (by omega)
theorem xv_map (l : List UInt64) : l.map xv = iv (l.map fun x => wrap64 (x.toNat : Int)) := by simp [iv, xv]
theorem wv_wrap (l : List UInt64) : wv (l.map fun x => wrap64 (x.toNat : Int)) = l := by
  unfold wv
  rw [List.map_map]
  have : (UInt64.ofInt ∘ fun x : UInt64 => wrap64 (x.toNat : Int)) = id := by funext x; exact ofInt_wrap x
  rw [this, List.map_id]

set_option maxHeartbeats 1000000 in
theorem wordsB_in (n : Nat) (A : Option Addr) (len cap : Nat) (w : World) :
    CallsIn Fence.wide n Try.prog 39 #[.slice A len cap] w fun e w' => e = .returned (.func (.func 52) #[] #[.pointer (some ⟨w.heap.size, 0, none⟩)]) ∧ w' = w.alloc (.cells #[.slice A len cap] 22) := by
  refine callsIn_of_wp Try.func39 rfl trivial ?_ rfl
  simp only [Try.ntmps39, List.size_toArray, List.length_cons, List.length_nil, Nat.reduceAdd, Nat.reduceSub, Array.replicate_succ, Array.replicate_zero, List.push_toArray, List.append_toArray, List.nil_append, List.cons_append]
  gi_wp2
  go_ret
  exact ⟨rfl, rfl⟩

theorem wordsB_stops (n : Nat) (hn : 1 ≤ n) (Bs n₀ : Nat) (A : Option Addr) (len cap : Nat) (bs : List UInt8) (hl : bs.length = len) (hs : len ≤ 1000000) (w : World) (hB : Bs < w.heap.size) (hn₀ : n₀ ≤ w.heap.size) (hc : w.cell? ⟨Bs, 0, none⟩ = some (.slice A len cap)) (hr : Reads w n₀ 1 A len (bv bs)) :
    SeqStopsK Fence.wide n Try.prog 52 #[.pointer (some ⟨Bs, 0, none⟩)] (fun x : UInt64 => #[Value.int .u64 (x.toNat : Int)]) (KeepB n₀ Bs) (fun ys => ys = H.words bs) (fun pre => pre <+: H.words bs) (H.nw bs) w := fun l J Jx W hW _ _ hY h0 =>
  wordsB1_in Fence.wide n trivial rfl hn l Bs n₀ A len cap bs hl hs J Jx hY W ((hW.cell (p := ⟨Bs, 0, none⟩) hB).trans hc) (hr.below (hW.mono hn₀)) h0

/-- Another variable's box, behind 'out = append(out, ..)'. -/
theorem box_appended {W w1 : World} {n₀ B B' : Nat} {t' e : TypeId} {size : Nat} {v v' u : Value} {k : Nat} {xs : List Value} {tmp : Obj}
    (hb : Boxed W B' t' u) (hte : t' ≠ e) (hrow : W.ownsRow n₀ e size v k xs) (hgrow : (W.alloc tmp).grownBy w1 v.ownBlock) (hne : B' ≠ B) : Boxed (w1.setCell ⟨B, 0, none⟩ v') B' t' u :=
  ((hb.alloc tmp).kept hgrow (hb.not_row hte hrow)).other hne v'
theorem KeepB.of_boxes {n₀ Bs : Nat} {t : TypeId} {u : Value} {W W' : World} (hb : Below n₀ W W') (h1 : Boxed W Bs t u) (h2 : Boxed W' Bs t u) : KeepB n₀ Bs W W' :=
  ⟨hb, fun p hp => World.cell?_of_block (by rw [hp]; exact (show W'.heap[Bs]? = _ from h2).trans (show W.heap[Bs]? = _ from h1).symm)⟩

theorem wv_snoc (l : List Int) (n : Nat) : wv (l ++ [(n : Int)]) = wv l ++ [UInt64.ofInt (n : Int)] := by simp [wv]
theorem iv_snoc (l : List UInt64) (n : Int) : l.map xv ++ [.int .i64 n] = iv ((l.map fun x => wrap64 (x.toNat : Int)) ++ [n]) := by rw [xv_map]; simp [iv]

set_option maxRecDepth 100000 in
set_option maxHeartbeats 2000000 in
theorem bytes_any (s : ByteArray) (hs : s.size ≤ 1000000) (A : Option Addr) (len cap : Nat) (bs : List UInt8) (hl : bs.length = len) (hlen : len ≤ 1000000) (w : World) (hrd : Reads w w.heap.size 1 A len (bv bs)) :
    Calls Try.prog 18 #[.string s, .slice A len cap] w fun e W' => e = .returned (.int .u64 ((H.bytes s.data.toList bs).toNat : Int)) ∧ Below w.heap.size w W' := by
  have HL := Lib.hid hl
  clear hl
  obtain ⟨i0, hi, hz0, hz1, hz2⟩ := info_parts infoInt
  refine (callsIn_wide (n := 4)).1 ?_
  refine callsIn_of_wp_marks Try.func18 rfl trivial ?_ rfl
  simp only [Try.ntmps18, List.size_toArray, List.length_cons, List.length_nil, Nat.reduceAdd, Nat.reduceSub, Array.replicate_succ, Array.replicate_zero, List.push_toArray, List.append_toArray, List.nil_append, List.cons_append]
  gi_wp2_with (refine ⟨trivial, ?_⟩; gi_at_call 39; refine (wordsB_in _ _ _ _ _).mono ?_; rintro e w' ⟨rfl, rfl⟩)
  obtain ⟨W0, hW0⟩ : ∃ W0, (w.alloc (.cells #[.slice none 0 0] 40)).alloc (.cells #[.slice A len cap] 22) = W0 := ⟨_, rfl⟩
  have hz : W0.heap.size = w.heap.size + 2 := by rw [← hW0]; simp
  have bS : Boxed W0 w.heap.size 40 (.slice none 0 0) := by rw [← hW0]; exact (Boxed.new _ _ _).alloc _
  have bL : Boxed W0 (w.heap.size + 1) 22 (.slice A len cap) := by
    have := (Boxed.new (w.alloc (.cells #[.slice none 0 0] 40)) 22 (.slice A len cap))
    rw [World.size_alloc, hW0] at this; exact this
  have hB0 : Below w.heap.size w W0 := by rw [← hW0]; exact ((Below.refl _ w).alloc (Nat.le_refl _) _).alloc (by simp) _
  rw [hW0]
  clear hW0
  have HZ := Lib.hid hz
  clear hz
  have hnw : H.nw bs ≤ 130000 := by unfold H.nw; rw [HL.out]; omega
  refine wpIn_rangeFunc_ownG rfl (by omega) (gf := 52) (lb := #[.pointer (some ⟨w.heap.size + 1, 0, none⟩)]) rfl trivial (enters_of Try.func52 (by kernel_rfl) rfl)
    (wordsB_stops 3 (by omega) (w.heap.size + 1) w.heap.size A len cap bs HL.out hlen W0 (by rw [HZ.out]; omega) (by rw [HZ.out]; omega) bL.cell (hrd.below hB0)) KeepB.trans (KeepB.book (by rw [HZ.out]; omega) (by rw [HZ.out]; omega)) (Below.refl _ _) (fun _ => rfl)
    (fun pre W => (∃ v, Boxed W w.heap.size 40 v ∧ W.ownsRow w.heap.size 3 1 v pre.length (pre.map xv) ∧ True) ∧ (Boxed W (w.heap.size + 1) 22 (.slice A len cap) ∧ Below w.heap.size w W))
    (fun _ _ _ => False)
    (OwnFrom.and (Own.from (holdsRow_own w.heap.size w.heap.size 40 3 1 (fun pre : List UInt64 => pre.length) (fun pre => pre.map xv) (fun _ _ => True)) _) (OwnFrom.and (Own.from (boxed_own (w.heap.size + 1) 22 (fun _ => .slice A len cap)) _) (ownFrom_below (Nat.le_refl _) (by rw [HZ.out]; omega))))
    (fun _ _ _ _ _ hs _ _ => hs)
    ⟨⟨_, bS, World.ownsRow_nil _ _ _ _, trivial⟩, bL, hB0⟩
    (fun x => { tmps := #[.string s, .slice A len cap, undef, undef, .int .u64 0, .pointer (some ⟨w.heap.size, 0, none⟩), .int .u64 (x.toNat : Int), .slice A len cap, .func (.func 52) #[] #[.pointer (some ⟨w.heap.size + 1, 0, none⟩)], .int .u64 (x.toNat : Int), undef, undef,
          undef, undef, undef, undef, undef, undef, undef, undef, undef, undef], defers := [] }) ?assign ?body ?done ?stop
  case assign =>
    intro l x W K hK
    gi_wp2
    exact hK
  case body =>
    rintro l pre x W ⟨⟨v, hv, hrow, _⟩, hbL, hB⟩ hlt
    have hc := hv.cell
    gi_wp2_with (gi_at_builtin; refine wpListIn_append_own _ rfl _ _ 40 rfl w.heap.size 3 i0 (.int .i64 0) 1 8 Try.underlying40 hi hz0 hz1 hz2 rfl (by decide) _ _ _ rfl (hrow.alloc _) ⟨W.heap.size, 0, none⟩ 1 1 [xv x] rfl rfl (cell_one_new _ _ _) (by simp [Value.oneCell', xv]) (by unfold maxLen; omega) (by omega) (by have := hB.size; simp; omega) ?_; intro v' w1 hown' hgrow _; obtain ⟨g', cap', rfl⟩ := ownsRow_succ hown'; obtain ⟨hv1, hv2, hr2, hk2, hb2⟩ := hv.appended (by decide) hrow hB.size (Nat.le_refl _) hown' hgrow; have hc1 := hv1.cell; have hf1 := hv1.frozen)
    have hbx : Boxed (w1.setCell ⟨w.heap.size, 0, none⟩ (.slice (some ⟨g', 0, none⟩) (pre.length + 1) cap')) (w.heap.size + 1) 22 (.slice A len cap) := box_appended hbL (by decide) hrow hgrow (by omega)
    exact ⟨hk2.from _, KeepB.of_boxes hb2 hbL hbx, ⟨_, hv2, by simpa using hr2, trivial⟩, hbx, hB.trans hb2⟩
  case done =>
    rintro D ys W hD hy ⟨⟨v, hv, hrow, _⟩, hbL, hB⟩ hK
    have HY := Lib.hid hy
    have hyl : ys.length ≤ 130000 := by rw [hy, H.words_len]; exact hnw
    have hDn : w.heap.size + 1 < D := by rw [HZ.out] at hD; omega
    clear hy hD
    have hc := hv.cell
    have hWn : w.heap.size ≤ W.heap.size := hB.size
    gi_wp2_with (first
      | (gi_at_builtin; refine wpListIn_append_own _ rfl _ _ 40 rfl w.heap.size 3 i0 (.int .i64 0) 1 8 Try.underlying40 hi hz0 hz1 hz2 rfl (by decide) _ _ _ rfl (hrow.alloc _) ⟨W.heap.size, 0, none⟩ 1 1 [.int .i64 (len : Int)] rfl rfl (cell_one_new _ _ _) (by simp [Value.oneCell']) (by unfold maxLen; omega) (by omega) (by simp; omega) ?_; intro v' w1 hown' hgrow _; obtain ⟨g', cap', rfl⟩ := ownsRow_succ hown'; have hrd2 := Reads.of_own hown'; rw [iv_snoc] at hrd2) | fail)
    refine ⟨trivial, ?_⟩
    refine (callsIn_wide.2 (sum_any s hs _ (ys.length + 1) _ ((ys.map fun x => wrap64 (x.toNat : Int)) ++ [(len : Int)]) (by simp) (by omega) _ hrd2)).mono ?_
    rintro e w2 ⟨rfl, hb2⟩
    have hK1 := other_grown hK rfl hrow hgrow
    have hK2 : w2.heap[D]? = some (.deferred (some [])) := (hb2.block D (Array.getElem?_eq_some_iff.1 hK1).1).trans hK1
    have hB1 : Below w.heap.size w w1 := hB.trans (below_appended hrow hWn hgrow)
    have hB2 : Below w.heap.size w w2 := hB1.trans (hb2.mono hB1.size)
    clear hgrow hown' hrow hK hK1
    gi_wp2
    refine ⟨by simp, .inl ⟨_, _, rfl, run_takeDeferred hK2, ?_⟩⟩
    refine ⟨_, results_tmp rfl _ _ _, ?_, hB2.trans (belowK_b (w := w) (Nat.le_refl _) _ D _ _ (by omega) hK2 rfl rfl)⟩
    show Ending.returned (.int .u64 ((H.sum s.data.toList (wv ((ys.map fun x => wrap64 (x.toNat : Int)) ++ [(len : Int)]))).toNat : Int)) = _
    rw [wv_snoc, wv_wrap, HY.out, H.bytes, HL.out, ofInt_nat _ (by omega)]
  case stop =>
    rintro D c pre W _ _ h _
    exact h.elim
end Go.Proofs.Ytfanhbemmjcomaa
