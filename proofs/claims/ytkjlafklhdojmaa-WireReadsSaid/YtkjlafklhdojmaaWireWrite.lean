/- The law's write and encode. -/
import Derived.Test.YtkjlafklhdojmaaWireVals
namespace Go.Proofs.Ytkjlafklhdojmaa
open Go.RowKit
set_option linter.unusedVariables false

/-- The encoding of a value. -/
def V.encV (x : Vl) : List UInt8 :=
  if x.kind = 0 then V.enc x.u else if x.kind = 1 then V.enc (V.zz x.n) else if x.kind = 2 then V.enc (UInt64.ofNat x.b.length) ++ x.b else V.enc (UInt64.ofNat x.l.length) ++ V.encI x.l
def V.encVs (vs : List Vl) : List UInt8 := vs.flatMap V.encV
theorem V.encVs_snoc (vs : List Vl) (x : Vl) : V.encVs (vs ++ [x]) = V.encVs vs ++ V.encV x := by simp [V.encVs]
theorem V.encV_len {m : Nat} {x : Vl} (h : VOk m x) : (V.encV x).length ≤ 10 + 10 * m := by
  unfold V.encV
  rcases h with ⟨h, _⟩ | ⟨h, _⟩ | ⟨h, _, _, hb, _⟩ | ⟨h, _, _, _, hl, _⟩ <;> rw [h]
  · have := (V.enc_len x.u).2; simp; omega
  · have := (V.enc_len (V.zz x.n)).2; simp; omega
  · have := (V.enc_len (UInt64.ofNat x.b.length)).2; simp; omega
  · have := (V.enc_len (UInt64.ofNat x.l.length)).2; have := V.encI_len x.l; simp; omega
theorem V.encVs_len {m : Nat} : ∀ {vs : List Vl}, (∀ x ∈ vs, VOk m x) → (V.encVs vs).length ≤ vs.length * (10 + 10 * m)
  | [], _ => by simp [V.encVs]
  | x :: vs, h => by
    have h1 := V.encV_len (h x (List.mem_cons_self ..))
    have h2 := V.encVs_len (vs := vs) (fun y hy => h y (List.mem_cons_of_mem _ hy))
    have e : V.encVs (x :: vs) = V.encV x ++ V.encVs vs := rfl
    rw [e, List.length_append, List.length_cons, Nat.succ_mul]; omega

set_option maxRecDepth 10000 in
set_option maxHeartbeats 1000000 in
theorem outBytes_zero (g base : Nat) (l : List UInt8) (A : Option Addr) (cap : Nat) (hs : l.length + 10 ≤ 10000000) (w : World) (h : OutAt w base g l) :
    Calls Try.prog 32 #[.pointer (some ⟨g, 0, none⟩), .slice A 0 cap] w fun e w' => e = .returned (.tuple #[]) ∧ OutAt w' base g (l ++ V.enc (UInt64.ofNat 0)) ∧ OutTurn g w w' := by
  obtain ⟨i0, hi, hz0, hz1, hz2⟩ := info_parts infoByte
  go_enter Try.func32, Try.ntmps32
  go_wp2_with fail
  refine (outUint_lit g base l _ 0 0 rfl (by omega) (by omega) rfl _ h).mono ?_
  rintro e w1 ⟨rfl, ho, ht⟩
  obtain ⟨L, hL⟩ : ∃ L, l ++ V.enc (UInt64.ofNat 0) = L := ⟨_, rfl⟩
  have hLlen : L.length ≤ l.length + 10 := by rw [← hL, List.length_append]; have := (V.enc_len (UInt64.ofNat 0)).2; omega
  rw [hL] at ho
  have HLE := Lib.hid hL
  clear hL
  obtain ⟨hbg, hbs, v, hbox, hown⟩ := ho
  have hc := hbox.cell
  have hfz := hbox.frozen
  obtain ⟨A0, c0, rfl, hcc, _, _⟩ := own_reads hown
  go_wp2_with (at_builtin; refine wpList_append_any _ rfl _ _ 24 rfl base 5 i0 (.int .u8 0) 1 1 Try.underlying24 hi hz0 hz1 hz2 rfl (by decide) _ _ _ rfl hown w1.heap.size A 0 cap [] rfl Reads.none_ (by simp) (by unfold maxLen; omega) (by omega) hbs ?_; intro v' w2 hown' hgrow hat; obtain ⟨hv1, hv2, hturn⟩ := out_turn hbox hown (Below.refl _ _) hgrow hat; obtain ⟨A9, c9, rfl, _⟩ := own_reads hown'; have hc1 := hv1.cell; have hf1 := hv1.frozen)
  go_end0
  rw [HLE.out]
  refine ⟨rfl, out_step _ hbg (Nat.le_trans h.base_le (ht.trans hturn).size) hv2 (hown'.kept (grownBy_setCell' w2 g _) (.inr (hv1.not_row (by decide) hown').symm)) (by simp [bv]), ht.trans hturn⟩
set_option maxHeartbeats 400000 in
theorem outInts_zero (g base : Nat) (l : List UInt8) (A : Option Addr) (cap : Nat) (hs : l.length + 10 ≤ 10000000) (w : World) (h : OutAt w base g l) :
    Calls Try.prog 33 #[.pointer (some ⟨g, 0, none⟩), .slice A 0 cap] w fun e w' => e = .returned (.tuple #[]) ∧ OutAt w' base g (l ++ V.enc (UInt64.ofNat 0)) ∧ OutTurn g w w' := by
  go_enter Try.func33, Try.ntmps33
  go_wp2_with fail
  refine (outUint_lit g base l _ 0 0 rfl (by omega) (by omega) rfl _ h).mono ?_
  rintro e w1 ⟨rfl, ho, ht⟩
  go_wp2_with fail
  go_loopw [13] (fun i wr => i = .int .i64 0 ∧ w1 = wr) (fun i _ => 0)
  case atStart => exact ⟨rfl, rfl⟩
  case round =>
    obtain ⟨rfl, rfl⟩ := hrel
    go_wp2_with fail
    go_end0
    exact ⟨rfl, ho, ht⟩
theorem far_of {w : World} {base g n : Nat} {l : List UInt8} {A : Option Addr} {xs : List Value} (h : OutAt w base g l) (hr : Reads w base 1 A n xs) (hn : 0 < n) : (∀ ad, A = some ad → ad.block ≠ g ∧ ¬ Owned w g ad.block) ∧ (∀ ad, A = some ad → ad.block < w.heap.size) := by
  obtain ⟨ad, rfl, hlt, _⟩ := hr.2 hn
  have h1 : ∀ ad', some ad = some ad' → ad'.block < base := by rintro _ ⟨⟩; exact hlt
  exact ⟨far_below (n := n) h h1, fun ad' e => by have := h1 ad' e; have := h.base_le; omega⟩
theorem outBytes_lt (m : List UInt8) (g base : Nat) (l : List UInt8) (A : Option Addr) (len cap : Nat) (bs : List UInt8) (hm : l ++ (V.enc (UInt64.ofNat len) ++ bs) = m) (hbl : bs.length = len) (hs : l.length + 10 + len ≤ 10000000) (w : World) (h : OutAt w base g l) (hr : Reads w base 1 A len (bv bs)) :
    Calls Try.prog 32 #[.pointer (some ⟨g, 0, none⟩), .slice A len cap] w fun e w' => e = .returned (.tuple #[]) ∧ OutAt w' base g m ∧ OutTurn g w w' := by
  subst hm
  rw [← List.append_assoc]
  rcases Nat.eq_zero_or_pos len with h0 | hpos
  · subst h0
    obtain rfl := List.eq_nil_of_length_eq_zero hbl
    rw [List.append_nil]
    exact outBytes_zero g base l A cap (by omega) w h
  · obtain ⟨h1, h2⟩ := far_of h hr hpos
    exact outBytes_any g base l A len cap bs hbl hs w h (hr.more h.base_le) h1 h2
theorem outInts_lt (m : List UInt8) (g base : Nat) (l : List UInt8) (A : Option Addr) (len cap : Nat) (is : List Int) (hm : l ++ (V.enc (UInt64.ofNat len) ++ V.encI is) = m) (hil : is.length = len) (hib : ∀ n ∈ is, inr n) (hs : l.length + 10 + 10 * len ≤ 10000000) (w : World) (h : OutAt w base g l) (hr : Reads w base 1 A len (iv is)) :
    Calls Try.prog 33 #[.pointer (some ⟨g, 0, none⟩), .slice A len cap] w fun e w' => e = .returned (.tuple #[]) ∧ OutAt w' base g m ∧ OutTurn g w w' := by
  subst hm
  rw [← List.append_assoc]
  rcases Nat.eq_zero_or_pos len with h0 | hpos
  · subst h0
    obtain rfl := List.eq_nil_of_length_eq_zero hil
    show Calls _ _ _ _ fun e w' => _ ∧ OutAt w' base g (l ++ V.enc (UInt64.ofNat 0) ++ []) ∧ _
    rw [List.append_nil]
    exact outInts_zero g base l A cap (by omega) w h
  · obtain ⟨h1, h2⟩ := far_of h hr hpos
    exact outInts_any g base l A len cap is hil hib hs w h (hr.more h.base_le) h1 h2

set_option maxHeartbeats 2000000 in
theorem write_any (g base m : Nat) (l L : List UInt8) (v : Value) (x : Vl) (hL : l ++ V.encV x = L) (hok : VOk m x) (hm : m ≤ 1000) (hs : l.length ≤ 1000000) (w : World) (h : OutAt w base g l) (hv : IsVal w base v x) :
    Calls Try.prog 29 #[.pointer (some ⟨g, 0, none⟩), v] w fun e w' => e = .returned (.tuple #[]) ∧ OutAt w' base g L ∧ OutTurn g w w' := by
  subst hL
  obtain ⟨A, c, A', c', rfl, hA, hA'⟩ := hv
  obtain ⟨kind, u, n, b, il⟩ := x
  have hglt := h.lt
  obtain ⟨kb, hkb⟩ : ∃ k, b.length = k := ⟨_, rfl⟩
  obtain ⟨kl, hkl⟩ : ∃ k, il.length = k := ⟨_, rfl⟩
  have hbn : Below w.heap.size w (w.alloc (.cells #[.int .i64 kind, .int .u64 (u.toNat : Int), .int .i64 n, .slice A kb c, .slice A' kl c'] 46)) := (Below.refl _ _).alloc (Nat.le_refl _) _
  have hbb := h.base_le
  have ho := h.later hbn
  have htn := OutTurn.of_below hglt hbn
  unfold V.encV
  simp only at hA hA' ⊢
  rw [hkb] at hA
  rw [hkl] at hA'
  have HKB := Lib.hid hkb
  have HKL := Lib.hid hkl
  have hA2 := hA.below (hbn.mono hbb)
  have hA2' := hA'.below (hbn.mono hbb)
  rcases hok with ⟨h1, h2, h3, h4⟩ | ⟨h1, h2, h3, h4, h5⟩ | ⟨h1, h2, h3, h4, h5⟩ | ⟨h1, h2, h3, h4, h5, h6⟩
  · have h1 : kind = 0 := h1
    subst h1
    rw [if_pos rfl, hkb, hkl]
    clear hkb hkl h2 h3 h4
    go_enter Try.func29, Try.ntmps29
    go_wp2_with fail
    refine (outUint_any g base l u (by omega) _ ho).mono ?_
    rintro e w1 ⟨rfl, ho1, ht1⟩
    go_wp2_with fail
    go_end0
    exact ⟨rfl, ho1, htn.trans ht1⟩
  · have h1 : kind = 1 := h1
    subst h1
    have h3 : inr n := h3
    rw [if_neg (by decide), if_pos rfl, hkb, hkl]
    clear hkb hkl
    have HN := Lib.hid h3
    clear h3 h2 h4 h5
    go_enter Try.func29, Try.ntmps29
    go_wp2_with fail
    refine (outInt_any g base l n HN.out.1 HN.out.2 (by omega) _ ho).mono ?_
    rintro e w1 ⟨rfl, ho1, ht1⟩
    go_wp2_with fail
    go_end0
    exact ⟨rfl, ho1, htn.trans ht1⟩
  · have h1 : kind = 2 := h1
    subst h1
    have h4 : b.length ≤ m := h4
    rw [if_neg (by decide), if_neg (by decide), if_pos rfl, hkb, hkl]
    rw [hkb] at h4
    clear hkb hkl h2 h3 h5
    go_enter Try.func29, Try.ntmps29
    go_wp2_with fail
    refine (outBytes_lt _ g base l A kb c b rfl HKB.out (by omega) _ ho hA2).mono ?_
    rintro e w1 ⟨rfl, ho1, ht1⟩
    go_wp2_with fail
    go_end0
    exact ⟨rfl, ho1, htn.trans ht1⟩
  · have h1 : kind = 3 := h1
    subst h1
    have h5 : il.length ≤ m := h5
    have h6 : ∀ n ∈ il, inr n := h6
    rw [if_neg (by decide), if_neg (by decide), if_neg (by decide), hkb, hkl]
    rw [hkl] at h5
    have HN := Lib.hid h6
    clear hkb hkl h6 h2 h3 h4
    go_enter Try.func29, Try.ntmps29
    go_wp2_with fail
    refine (outInts_lt _ g base l A' kl c' il rfl HKL.out HN.out (by omega) _ ho hA2').mono ?_
    rintro e w1 ⟨rfl, ho1, ht1⟩
    go_wp2_with fail
    go_end0
    exact ⟨rfl, ho1, htn.trans ht1⟩
end Go.Proofs.Ytkjlafklhdojmaa
