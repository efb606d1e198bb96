/- The writer: zigzag, Out.Uint, Out.Int, Out.Bytes, Out.Ints, Out.Done; slices.Clone of bytes. -/
import Derived.Test.YtfanhbemmjcomaaRef01
import Derived.Test.YtfanhbemmjcomaaWireNum
import Derived.LaidEqlPtr
import Derived.Lib.SliceRun
namespace Go.Proofs.Ytfanhbemmjcomaa
open Go.RowKit
set_option linter.unusedVariables false


/-- A writer at block g: it holds a row of the call's own, whose bytes are l; all of it from block base on. -/
def OutAt (W : World) (base g : Nat) (l : List UInt8) : Prop := base ≤ g ∧ base ≤ W.heap.size ∧ ∃ v, Boxed W g 32 v ∧ W.ownsRow base 5 1 v l.length (bv l)
/-- Block k is the row that the writer at g holds. -/
def Owned (W : World) (g k : Nat) : Prop := ∃ v, Boxed W g 32 v ∧ v.ownBlock = some k
/-- Nothing has turned but the writer at g, its row, and what is new. -/
def OutTurn (g : Nat) (w w' : World) : Prop :=
  w'.os = w.os ∧ w'.tape = w.tape ∧ w'.output = w.output ∧ w.heap.size ≤ w'.heap.size ∧
    (∀ k, k < w.heap.size → k ≠ g → ¬ Owned w g k → w'.heap[k]? = w.heap[k]?) ∧ (∀ k, k < w.heap.size → Owned w' g k → Owned w g k)
theorem OutTurn.refl (g : Nat) (w : World) : OutTurn g w w := ⟨rfl, rfl, rfl, Nat.le_refl _, fun _ _ _ _ => rfl, fun _ _ h => h⟩
theorem OutTurn.trans {g : Nat} {a b c : World} (h : OutTurn g a b) (k : OutTurn g b c) : OutTurn g a c :=
  ⟨k.1.trans h.1, k.2.1.trans h.2.1, k.2.2.1.trans h.2.2.1, Nat.le_trans h.2.2.2.1 k.2.2.2.1,
   fun i hi hg ho => (k.2.2.2.2.1 i (Nat.lt_of_lt_of_le hi h.2.2.2.1) hg (fun h' => ho (h.2.2.2.2.2 i hi h'))).trans (h.2.2.2.2.1 i hi hg ho),
   fun i hi ho => h.2.2.2.2.2 i hi (k.2.2.2.2.2 i (Nat.lt_of_lt_of_le hi h.2.2.2.1) ho)⟩
theorem OutTurn.size {g : Nat} {w w' : World} (h : OutTurn g w w') : w.heap.size ≤ w'.heap.size := h.2.2.2.1
theorem OutAt.new (W : World) : OutAt (W.alloc (.cells #[.slice none 0 0] 32)) W.heap.size W.heap.size [] :=
  ⟨Nat.le_refl _, by simp, _, Boxed.new _ _ _, World.ownsRow_nil _ _ _ _⟩
theorem OutAt.lt {W : World} {base g : Nat} {l : List UInt8} (h : OutAt W base g l) : g < W.heap.size := by
  obtain ⟨_, _, v, hb, _⟩ := h; exact hb.lt
theorem box_below {W W' : World} {g : Nat} {t : TypeId} {v : Value} (h : Boxed W g t v) (hb : Below W.heap.size W W') : Boxed W' g t v := (hb.block g h.lt).trans h
theorem OutAt.later {W W' : World} {base g : Nat} {l : List UInt8} (h : OutAt W base g l) (hb : Below W.heap.size W W') : OutAt W' base g l := by
  obtain ⟨h1, h2, v, h3, h4⟩ := h
  exact ⟨h1, Nat.le_trans h2 hb.size, v, box_below h3 hb, own_below h4 hb⟩
theorem OutAt.base_le {W : World} {base g : Nat} {l : List UInt8} (h : OutAt W base g l) : base ≤ W.heap.size := h.2.1
theorem Boxed.uniq {W : World} {B : Nat} {t : TypeId} {u v : Value} (h : Boxed W B t u) (k : Boxed W B t v) : u = v := by
  have := (show W.heap[B]? = _ from h).symm.trans k
  simpa using this
theorem OutAt.owned {W : World} {base g k : Nat} {l : List UInt8} (h : OutAt W base g l) (ho : Owned W g k) : base ≤ k ∧ k < W.heap.size := by
  obtain ⟨_, _, v, h3, h4⟩ := h
  obtain ⟨u, h5, h6⟩ := ho
  obtain rfl := Boxed.uniq h3 h5
  rcases h4.2 with ⟨rfl, _⟩ | ⟨g', cap, cur, rfl, hb, hh, _⟩
  · simp [Value.ownBlock] at h6
  · obtain rfl : g' = k := by simpa [Value.ownBlock] using h6
    exact ⟨hb, (Array.getElem?_eq_some_iff.1 hh).1⟩
theorem OutTurn.below {w w' : World} {base g : Nat} {l : List UInt8} (h : OutTurn g w w') (ho : OutAt w base g l) : Below base w w' :=
  ⟨h.1, h.2.1, h.2.2.1, h.2.2.2.1, fun k hk => h.2.2.2.2.1 k (Nat.lt_of_lt_of_le hk ho.base_le) (by have := ho.1; omega) (fun h' => by have := (ho.owned h').1; omega)⟩
theorem OutTurn.keep {w w' : World} {g : Nat} (h : OutTurn g w w') {B size n : Nat} {A : Option Addr} {xs : List Value} (hr : Reads w B size A n xs) (hB : B ≤ w.heap.size) (hfar : ∀ ad, A = some ad → ad.block ≠ g ∧ ¬ Owned w g ad.block) : Reads w' B size A n xs :=
  ⟨hr.1, fun hn => by
    obtain ⟨ad, e, hb, hc⟩ := hr.2 hn
    refine ⟨ad, e, hb, fun j u hu => ?_⟩
    rw [← hc j u hu]
    refine World.cell?_of_block ?_
    rw [block_of_add]
    exact h.2.2.2.2.1 _ (by omega) (hfar ad e).1 (hfar ad e).2⟩
theorem OutTurn.far {w w' : World} {g : Nat} (h : OutTurn g w w') {A : Option Addr} (hlt : ∀ ad, A = some ad → ad.block < w.heap.size) (hfar : ∀ ad, A = some ad → ad.block ≠ g ∧ ¬ Owned w g ad.block) : ∀ ad, A = some ad → ad.block ≠ g ∧ ¬ Owned w' g ad.block :=
  fun ad e => ⟨(hfar ad e).1, fun h' => (hfar ad e).2 (h.2.2.2.2.2 _ (hlt ad e) h')⟩
theorem far_below {w : World} {base g n : Nat} {l : List UInt8} {A : Option Addr} (ho : OutAt w base g l) (hA : ∀ ad, A = some ad → ad.block < base) : ∀ ad, A = some ad → ad.block ≠ g ∧ ¬ Owned w g ad.block :=
  fun ad e => ⟨by have := hA ad e; have := ho.1; omega, fun h' => by have := hA ad e; have := (ho.owned h').1; omega⟩
theorem OutTurn.of_below {w w' : World} {g : Nat} (hg : g < w.heap.size) (h : Below w.heap.size w w') : OutTurn g w w' :=
  ⟨h.os, h.tape, h.output, h.size, fun k hk _ _ => h.block k hk, fun k hk ⟨v, h1, h2⟩ => ⟨v, (h.block g hg).symm.trans h1, h2⟩⟩
/-- One append into the writer. -/
theorem out_turn {wr w1 : World} {g n base : Nat} {v v' : Value} {xs : List Value} (hbox : Boxed wr g 32 v) (hown : wr.ownsRow base 5 1 v n xs) {W : World} (hW : Below wr.heap.size wr W) (hgrow : W.grownBy w1 v.ownBlock)
    (hat : v'.ownBlock = v.ownBlock ∨ v'.ownBlock = some W.heap.size) : Boxed w1 g 32 v ∧ Boxed (w1.setCell ⟨g, 0, none⟩ v') g 32 v' ∧ OutTurn g wr (w1.setCell ⟨g, 0, none⟩ v') := by
  have hne : some g ≠ v.ownBlock := hbox.not_row (by decide) hown
  have hbW : Boxed W g 32 v := box_below hbox hW
  have hb1 : Boxed w1 g 32 v := hbW.kept hgrow hne
  have hs : wr.heap.size ≤ w1.heap.size := Nat.le_trans hW.size hgrow.size
  have hb2 := hb1.set v'
  refine ⟨hb1, hb2, hgrow.os.trans hW.os, hgrow.tape.trans hW.tape, hgrow.output.trans hW.output, by simpa [World.setCell] using hs, fun k hk hkg ho => ?_, fun k hk ⟨u, h1, h2⟩ => ?_⟩
  · refine (Below.heap_setCell w1 ⟨g, 0, none⟩ v' k hkg).trans (((hgrow.block k (Nat.lt_of_lt_of_le hk hW.size) (fun e => ho ⟨v, hbox, e.symm⟩))).trans (hW.block k hk))
  · obtain rfl := Boxed.uniq h1 hb2
    rcases hat with e | e
    · exact ⟨v, hbox, by rw [← e]; exact h2⟩
    · rw [e] at h2
      injection h2 with h2
      have := hW.size
      omega
/-- The byte that Out.Uint writes while more follow. -/
theorem more_byte (m : Nat) (h : m < 18446744073709551616) : bits BinOp.or IntKind.u8 ((m : Int) % 256) 128 = ((UInt8.ofNat (m % 128 + 128)).toNat : Int) := by
  have e : (m : Int) % 256 = ((m % 256 : Nat) : Int) := by omega
  have h2 : (UInt8.ofNat (m % 128 + 128)).toNat = m % 128 + 128 := UInt8.toNat_ofNat_of_lt' (by show _ < 256; omega)
  rw [e, h2]
  have := u8_or_nat (m % 256) 128 (by omega) (by omega)
  rw [show ((128 : Nat) : Int) = 128 from rfl] at this
  rw [this]
  have h3 : ∀ k, k < 256 → k ||| 128 = k % 128 + 128 := by decide +kernel
  rw [h3 _ (by omega)]
  omega
theorem last_byte (m : Nat) : IntKind.u8.wrap (m : Int) = ((UInt8.ofNat m).toNat : Int) := by
  have h2 : (UInt8.ofNat m).toNat = m % 256 := by simp
  rw [h2, IntKind.wrap_u8]; omega
theorem last_byte_small (m : Nat) (h : m < 128) : (m : Int) = ((UInt8.ofNat m).toNat : Int) := by
  have h2 : (UInt8.ofNat m).toNat = m % 256 := by simp
  rw [h2]; omega
theorem bv_app (l m : List UInt8) : bv (l ++ m) = bv l ++ bv m := by simp [bv]
theorem out_step {w1 : World} {base g n : Nat} {v : Value} {xs : List Value} (l : List UInt8) (hb : base ≤ g) (hs : base ≤ w1.heap.size) (h1 : Boxed w1 g 32 v) (h2 : w1.ownsRow base 5 1 v n xs) (hx : xs = bv l) : OutAt w1 base g l := by
  subst hx
  have : n = l.length := by have := h2.1; simp [bv] at this; omega
  subst this
  exact ⟨hb, hs, v, h1, h2⟩

set_option maxRecDepth 10000 in
set_option maxHeartbeats 1000000 in
theorem outUint_any (g base : Nat) (l : List UInt8) (n : UInt64) (hl : l.length ≤ 10000000) (w : World) (h : OutAt w base g l) :
    Calls Try.prog 14 #[.pointer (some ⟨g, 0, none⟩), .int .u64 (n.toNat : Int)] w fun e w' => e = .returned (.tuple #[]) ∧ OutAt w' base g (l ++ V.enc n) ∧ OutTurn g w w' := by
  obtain ⟨i0, hi, hz0, hz1, hz2⟩ := info_parts infoByte
  have hn := n.toNat_lt
  have hp := V.pow_start n
  have HE := Lib.hid (show l ++ V.encF 9 n.toNat = l ++ V.enc n from rfl)
  obtain ⟨m0, hm0⟩ : ∃ m, n.toNat = m := ⟨_, rfl⟩
  rw [hm0] at hn hp HE ⊢
  have HN := Lib.hid hn
  have HP := Lib.hid hp
  clear hm0 hn hp
  go_enter Try.func14, Try.ntmps14
  go_wp2
  go_loopw [1] (fun n' wr => ∃ (m f : Nat) (l' : List UInt8), f ≤ 9 ∧ Hid (m < 18446744073709551616) ∧ Hid (m < 128 ^ (f + 1)) ∧ n' = .int .u64 (m : Int) ∧ Hid (l' ++ V.encF f m = l ++ V.enc n) ∧ l'.length + f ≤ l.length + 9 ∧ OutAt wr base g l' ∧ OutTurn g w wr)
    (fun n' _ => (intOf n').toNat)
  case atStart => exact ⟨m0, 9, l, Nat.le_refl _, HN, HP, rfl, HE.out, Nat.le_refl _, h, OutTurn.refl _ _⟩
  case round =>
    obtain ⟨m, f, l', hf, hm, hpw, rfl, hle, hll, hout, hbel⟩ := hrel
    obtain ⟨hbg, hbs, v, hbox, hown⟩ := hout
    have hc := hbox.cell
    have hfz := hbox.frozen
    by_cases hbig : 128 ≤ m
    · cases f with
      | zero => have := V.pow_end hpw.out; omega
      | succ f =>
        have hmb := more_byte m hm.out
        obtain ⟨c, hcc⟩ : ∃ c : UInt8, UInt8.ofNat (m % 128 + 128) = c := ⟨_, rfl⟩
        rw [hcc] at hmb
        have HCC := Lib.hid hcc
        clear hcc
        go_wp2_with (at_builtin; refine wpList_append_any _ rfl _ _ 22 rfl base 5 i0 (.int .u8 0) 1 1 Try.underlying22 hi hz0 hz1 hz2 rfl (by decide) _ _ _ rfl (hown.alloc _) _ _ 1 1 [.int .u8 (c.toNat : Int)] rfl (Reads.new wr [.int .u8 (c.toNat : Int)] 5 1 rfl) (by simp [Value.oneCell']) (by unfold maxLen; omega) (by omega) (by simp; omega) ?_; intro v' w1 hown' hgrow hat; obtain ⟨g', cap', rfl⟩ := ownsRow_succ hown'; obtain ⟨hv1, hv2, hturn⟩ := out_turn hbox hown ((Below.refl _ _).alloc (Nat.le_refl _) _) hgrow hat; have hc1 := hv1.cell; have hf1 := hv1.frozen)
        have hB1 := hbel.trans hturn
        go_roundw
        case rel =>
          refine ⟨m / 128, f, l' ++ [c], by omega, by have := hm.out; show m / 128 < _; omega, V.pow_step hpw.out, by go_num, ?_, by simp; omega, out_step _ hbg (by have := hB1.size; have := h.base_le; omega) hv2 (hown'.kept (grownBy_setCell' w1 g _) (.inr (hv1.not_row (by decide) hown').symm)) (by simp [bv]), hB1⟩
          show _ = _
          rw [← hle.out, V.encF_big hbig, HCC.out]; simp
        case measure => simp [intOf]; omega
    · have hmb := last_byte_small m (by omega)
      have HCC := Lib.hid (V.encF_small (f := f) (show m < 128 by omega))
      obtain ⟨c, hcc⟩ : ∃ c : UInt8, UInt8.ofNat m = c := ⟨_, rfl⟩
      rw [hcc] at hmb HCC
      clear hcc
      go_wp2_with (at_builtin; refine wpList_append_any _ rfl _ _ 22 rfl base 5 i0 (.int .u8 0) 1 1 Try.underlying22 hi hz0 hz1 hz2 rfl (by decide) _ _ _ rfl (hown.alloc _) _ _ 1 1 [.int .u8 (c.toNat : Int)] rfl (by rw [← hmb]; exact Reads.new wr [.int .u8 (m : Int)] 5 1 rfl) (by simp [Value.oneCell']) (by unfold maxLen; omega) (by omega) (by simp; omega) ?_; intro v' w1 hown' hgrow hat; obtain ⟨g', cap', rfl⟩ := ownsRow_succ hown'; obtain ⟨hv1, hv2, hturn⟩ := out_turn hbox hown ((Below.refl _ _).alloc (Nat.le_refl _) _) hgrow hat; have hc1 := hv1.cell; have hf1 := hv1.frozen)
      have hB1 := hbel.trans hturn
      go_end0
      refine ⟨rfl, out_step _ hbg (by have := hB1.size; have := h.base_le; omega) hv2 (hown'.kept (grownBy_setCell' w1 g _) (.inr (hv1.not_row (by decide) hown').symm)) ?_, hB1⟩
      rw [← hle.out, HCC.out, bv_app]; rfl
end Go.Proofs.Ytfanhbemmjcomaa
