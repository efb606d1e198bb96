/- The writer's other methods: Out.Int, Out.Bytes, Out.Ints, Out.Done; slices.Clone of bytes. -/
import Derived.Test.YtfanhbemmjcomaaWireOut
namespace Go.Proofs.Ytfanhbemmjcomaa
open Go.RowKit
set_option linter.unusedVariables false

theorem outUint_nat (g base : Nat) (l : List UInt8) (n : Nat) (hn : n ≤ 10000000) (hl : l.length ≤ 10000000) (w : World) (h : OutAt w base g l) :
    Calls Try.prog 14 #[.pointer (some ⟨g, 0, none⟩), .int .u64 (n : Int)] w fun e w' => e = .returned (.tuple #[]) ∧ OutAt w' base g (l ++ V.enc (UInt64.ofNat n)) ∧ OutTurn g w w' := by
  have : (n : Int) = ((UInt64.ofNat n).toNat : Int) := by rw [UInt64.toNat_ofNat_of_lt' (by show _ < 18446744073709551616; omega)]
  rw [this]; exact outUint_any g base l _ hl w h


theorem bv_one (l : List UInt8) : ∀ u ∈ bv l, u.oneCell' = true := few_one l
set_option maxRecDepth 10000 in
set_option maxHeartbeats 1000000 in
theorem outBytes_any (g base : Nat) (l : List UInt8) (A : Option Addr) (len cap : Nat) (bs : List UInt8) (hbl : bs.length = len) (hs : l.length + 10 + len ≤ 10000000) (w : World) (h : OutAt w base g l) (hr : Reads w w.heap.size 1 A len (bv bs))
    (hfar : ∀ ad, A = some ad → ad.block ≠ g ∧ ¬ Owned w g ad.block) (hlt : ∀ ad, A = some ad → ad.block < w.heap.size) :
    Calls Try.prog 15 #[.pointer (some ⟨g, 0, none⟩), .slice A len cap] w fun e w' => e = .returned (.tuple #[]) ∧ OutAt w' base g (l ++ V.enc (UInt64.ofNat len) ++ bs) ∧ OutTurn g w w' := by
  obtain ⟨i0, hi, hz0, hz1, hz2⟩ := info_parts infoByte
  have HL := Lib.hid hbl
  clear hbl
  have HF := Lib.hid hfar
  have HLT := Lib.hid hlt
  clear hfar hlt
  go_enter Try.func15, Try.ntmps15
  go_wp2_with fail
  refine (outUint_nat g base l len (by omega) (by omega) _ h).mono ?_
  rintro e w1 ⟨rfl, ho, ht⟩
  have hr1 := (ht.keep hr (Nat.le_refl _) HF.out).more ht.size
  obtain ⟨L, hL⟩ : ∃ L, l ++ V.enc (UInt64.ofNat len) = L := ⟨_, rfl⟩
  have hLlen : L.length ≤ l.length + 10 := by rw [← hL, List.length_append]; have := (V.enc_len (UInt64.ofNat len)).2; omega
  rw [hL] at ho
  have HLE := Lib.hid hL
  clear hL hr
  obtain ⟨hbg, hbs, v, hbox, hown⟩ := ho
  have hc := hbox.cell
  have hfz := hbox.frozen
  have h1 := bv_one bs
  obtain ⟨A0, c0, rfl, hcc, _, _⟩ := own_reads hown
  go_wp2_with (at_builtin; refine wpList_append_any _ rfl _ _ 22 rfl base 5 i0 (.int .u8 0) 1 1 Try.underlying22 hi hz0 hz1 hz2 rfl (by decide) _ _ _ rfl hown w1.heap.size A len cap (bv bs) rfl hr1 h1 (by unfold maxLen; omega) (by omega) hbs ?_; intro v' w2 hown' hgrow hat; obtain ⟨hv1, hv2, hturn⟩ := out_turn hbox hown (Below.refl _ _) hgrow hat; obtain ⟨A9, c9, rfl, _⟩ := own_reads hown'; have hc1 := hv1.cell; have hf1 := hv1.frozen)
  go_end0
  rw [HLE.out]
  refine ⟨rfl, out_step _ hbg (by have := (ht.trans hturn).size; have := h.base_le; omega) hv2 (hown'.kept (grownBy_setCell' w2 g _) (.inr (hv1.not_row (by decide) hown').symm)) (by simp [bv]), ht.trans hturn⟩

/-- What Out.Ints writes. -/
def V.encI (l : List Int) : List UInt8 := l.flatMap fun n => V.enc (V.zz n)
theorem V.encI_snoc (l : List Int) (n : Int) : V.encI (l ++ [n]) = V.encI l ++ V.enc (V.zz n) := by simp [V.encI]
theorem V.encI_len : ∀ l : List Int, (V.encI l).length ≤ 10 * l.length
  | [] => by simp [V.encI]
  | n :: l => by
    have h1 := V.encI_len l
    have h2 := (V.enc_len (V.zz n)).2
    unfold V.encI at h1 ⊢
    simp only [List.flatMap_cons, List.length_append, List.length_cons]
    omega

set_option maxHeartbeats 1000000 in
theorem clone_any (A : Option Addr) (len cap : Nat) (bs : List UInt8) (hl : len ≤ 20000000) (B : Nat) (w : World) (hB : B ≤ w.heap.size) (hr : Reads w B 1 A len (bv bs)) :
    Calls Try.prog 38 #[.slice A len cap] w fun e w' => ∃ v, e = .returned v ∧ w'.ownsRow w.heap.size 5 1 v len (bv bs) ∧ Below w.heap.size w w' := by
  obtain ⟨i0, hi, hz0, hz1, hz2⟩ := info_parts infoByte
  have h1 := bv_one bs
  have hnil := fun w n c n' c' a => Lib.run_eql_slice_nil (P := Try.prog) w 22 5 a n c n' c' Try.underlying22
  cases A with
  | none =>
    have h0 : len = 0 := by
      rcases Nat.eq_zero_or_pos len with h | h
      · exact h
      · obtain ⟨ad, h, _⟩ := hr.2 h; cases h
    have hb : bs = [] := List.eq_nil_of_length_eq_zero (by have := hr.1; simp [bv] at this; omega)
    subst h0 hb
    clear h1
    go_enter Try.func38, Try.ntmps38
    go_wp2
    go_ret
    exact ⟨_, rfl, World.ownsRow_nil _ _ _ _, Below.refl _ _⟩
  | some ad =>
    have hr1 := (hr.more hB).alloc (Nat.le_refl _) (.cells #[] 5)
    go_enter Try.func38, Try.ntmps38
    go_wp2_with (at_builtin; refine wpList_append_any _ rfl _ _ 22 rfl w.heap.size 5 i0 (.int .u8 0) 1 1 Try.underlying22 hi hz0 hz1 hz2 rfl (by decide) _ 0 [] rfl (World.ownsRow_lit w #[] 0 (Nat.le_refl _) (by unfold maxLen; omega) rfl) w.heap.size (some ad) len cap (bv bs) rfl hr1 h1 (by unfold maxLen; omega) (by omega) (by simp) ?_; intro v' w1 hown' hgrow hat)
    go_ret
    have hgrow : (w.alloc (.cells #[] 5)).grownBy w1 (some w.heap.size) := hgrow
    exact ⟨_, rfl, by simpa using hown', ((Below.refl _ _).alloc (Nat.le_refl _) _).grown hgrow (by simp) (by simp)⟩

set_option maxHeartbeats 1000000 in
theorem done_any (g base : Nat) (l : List UInt8) (hl : l.length ≤ 20000000) (w : World) (h : OutAt w base g l) :
    Calls Try.prog 17 #[.pointer (some ⟨g, 0, none⟩)] w fun e w' => ∃ v, e = .returned v ∧ w'.ownsRow w.heap.size 5 1 v l.length (bv l) ∧ Below w.heap.size w w' := by
  obtain ⟨hbg, hbs, v, hbox, hown⟩ := h
  have hc := hbox.cell
  obtain ⟨A0, c0, rfl, hcc, hr, _⟩ := own_reads hown
  go_enter Try.func17, Try.ntmps17
  go_wp2_with fail
  refine (clone_any A0 _ c0 l hl w.heap.size w (Nat.le_refl _) hr).mono ?_
  rintro e w1 ⟨v, rfl, hown1, hb1⟩
  go_wp2_with fail
  go_ret
  exact ⟨v, rfl, hown1, hb1⟩
end Go.Proofs.Ytfanhbemmjcomaa
