/- The law's encode. -/
import Derived.Test.YtkjlafklhdojmaaWireWrite
namespace Go.Proofs.Ytkjlafklhdojmaa
open Go.RowKit
set_option linter.unusedVariables false

/-- One value of a row, at a later world. -/
theorem val_at {W : World} {base n c k : Nat} {A : Option Addr} {vs : List Vl} (h : ValsAt W base (.slice A n c) vs) (hk : k < vs.length) :
    ∃ g x B d B' d', A = some ⟨g, 0, none⟩ ∧ base ≤ g ∧ g < W.heap.size ∧ vs[k]? = some x ∧ W.cell? ⟨g, k * 5, none⟩ = some (.int .i64 x.kind) ∧ W.cell? ⟨g, k * 5 + 1, none⟩ = some (.int .u64 (x.u.toNat : Int)) ∧ W.cell? ⟨g, k * 5 + 2, none⟩ = some (.int .i64 x.n) ∧
      W.cell? ⟨g, k * 5 + 3, none⟩ = some (.slice B x.b.length d) ∧ W.cell? ⟨g, k * 5 + 4, none⟩ = some (.slice B' x.l.length d') ∧ Reads W W.heap.size 1 B x.b.length (bv x.b) ∧ Reads W W.heap.size 1 B' x.l.length (iv x.l) := by
  obtain ⟨cells, h1, h2⟩ := h
  have hf := h1.form (by omega)
  obtain ⟨g, cap, hv, hb, hlt⟩ := hf
  injection hv with hA hn hc
  subst hA hn hc
  have hx : vs[k]? = some vs[k] := List.getElem?_eq_getElem hk
  obtain ⟨B, d, B', d', c0, c1, c2, c3, c4, r1, r2, _⟩ := h2.2 k _ hx
  have hl := h2.1
  have e : 5 * k = k * 5 := Nat.mul_comm _ _
  rw [e] at c0 c1 c2 c3 c4
  exact ⟨g, _, B, d, B', d', rfl, hb, hlt, hx, (h1.cellAt _ (by omega)).trans c0, (h1.cellAt _ (by omega)).trans c1, (h1.cellAt _ (by omega)).trans c2, (h1.cellAt _ (by omega)).trans c3, (h1.cellAt _ (by omega)).trans c4, r1, r2⟩

set_option maxHeartbeats 2000000 in
theorem encode_any (base m n c : Nat) (A : Option Addr) (vs : List Vl) (hn : vs.length = n) (hn2 : n ≤ 20) (hok : ∀ x ∈ vs, VOk m x) (hm : m ≤ 1000) (w : World) (h : ValsAt w base (.slice A n c) vs) :
    Calls Try.prog 31 #[.slice A n c] w fun e w' => ∃ v, e = .returned v ∧ w'.ownsRow w.heap.size 5 1 v (V.encVs vs).length (bv (V.encVs vs)) ∧ Below w.heap.size w w' := by
  have HN := Lib.hid hn
  have HOK := Lib.hid hok
  clear hn hok
  go_enter Try.func31, Try.ntmps31
  go_wp2_with fail
  have ho0 := OutAt.new w
  go_loopw [4] (fun ix wr => ∃ i : Nat, i ≤ n ∧ ix = .int .i64 (i : Int) ∧ OutAt wr w.heap.size w.heap.size (V.encVs (vs.take i)) ∧ Below w.heap.size w wr) (fun ix _ => n - (intOf ix).toNat)
  case atStart => exact ⟨0, Nat.zero_le _, rfl, by simpa [V.encVs] using ho0, (Below.refl _ _).alloc (Nat.le_refl _) _⟩
  case round =>
    obtain ⟨i, hi, rfl, ho, hb⟩ := hrel
    by_cases hlt : i < n
    · obtain ⟨g, x, B, d, B', d', rfl, _, hgl, hx, c0, c1, c2, c3, c4, r1, r2⟩ := val_at h (k := i) (by rw [HN.out]; exact hlt)
      have c0 := (hb.cell (p := ⟨g, i * 5, none⟩) hgl).trans c0
      have c1 := (hb.cell (p := ⟨g, i * 5 + 1, none⟩) hgl).trans c1
      have c2 := (hb.cell (p := ⟨g, i * 5 + 2, none⟩) hgl).trans c2
      have c3 := (hb.cell (p := ⟨g, i * 5 + 3, none⟩) hgl).trans c3
      have c4 := (hb.cell (p := ⟨g, i * 5 + 4, none⟩) hgl).trans c4
      have r1 := r1.below hb
      have r2 := r2.below hb
      have hxok := HOK.out x (List.mem_of_getElem? hx)
      have hlen : (V.encVs (vs.take i)).length ≤ 1000000 := by
        have h1 := V.encVs_len (m := m) (vs := vs.take i) (fun y hy => HOK.out y (List.mem_of_mem_take hy))
        have h2 : (vs.take i).length ≤ 20 := by rw [List.length_take]; omega
        have h3 : (vs.take i).length * (10 + 10 * m) ≤ 20 * (10 + 10 * 1000) := Nat.mul_le_mul h2 (by omega)
        omega
      have hwr := write_any w.heap.size w.heap.size m _ (V.encVs (vs.take (i + 1))) (.agg #[.int .i64 x.kind, .int .u64 (x.u.toNat : Int), .int .i64 x.n, .slice B x.b.length d, .slice B' x.l.length d']) x (by rw [List.take_add_one, hx]; simp [V.encVs]) hxok hm hlen wr ho ⟨B, d, B', d', rfl, r1, r2⟩
      obtain ⟨lb, hlb⟩ : ∃ k, x.b.length = k := ⟨_, rfl⟩
      obtain ⟨ll, hll⟩ : ∃ k, x.l.length = k := ⟨_, rfl⟩
      obtain ⟨xk, hxk⟩ : ∃ k, x.kind = k := ⟨_, rfl⟩
      obtain ⟨xu, hxu⟩ : ∃ k, x.u = k := ⟨_, rfl⟩
      obtain ⟨xn, hxn⟩ : ∃ k, x.n = k := ⟨_, rfl⟩
      rw [hlb] at c3 r1 hwr
      rw [hll] at c4 r2 hwr
      rw [hxk] at c0 hwr
      rw [hxu] at c1 hwr
      rw [hxn] at c2 hwr
      clear hlb hll hxk hxu hxn hx hxok hlen r1 r2
      have hi1 : (0 : Int) ≤ (i : Int) := by omega
      have hi2 : (i : Int) < (n : Int) := by omega
      go_wp2_with fail
      refine hwr.mono ?_
      rintro e w1 ⟨rfl, ho1, ht1⟩
      clear hwr
      have hb1 := hb.trans (ht1.below ho)
      go_wp2_with fail
      go_roundw
      case rel => exact ⟨i + 1, by omega, by go_num, ho1, hb1⟩
      case measure => simp [intOf]; omega
    · have hin : i = n := by omega
      have ho2 : OutAt wr w.heap.size w.heap.size (V.encVs vs) := by rw [List.take_of_length_le (by rw [HN.out]; omega)] at ho; exact ho
      have hlen : (V.encVs vs).length ≤ 20000000 := by
        have h1 := V.encVs_len (m := m) HOK.out
        have h3 : vs.length * (10 + 10 * m) ≤ 20 * (10 + 10 * 1000) := Nat.mul_le_mul (by rw [HN.out]; omega) (by omega)
        omega
      clear hin
      go_wp2_with fail
      refine (done_any _ _ _ hlen _ ho2).mono ?_
      rintro e w1 ⟨v, rfl, hown, hd⟩
      go_wp2_with fail
      go_ret
      exact ⟨v, rfl, by
        refine ⟨hown.1, ?_⟩
        rcases hown.2 with h2 | ⟨g, cap, cur, h1, h2, h3⟩
        · exact .inl h2
        · exact .inr ⟨g, cap, cur, h1, Nat.le_trans hb.size h2, h3⟩, blater hb (Nat.le_refl _) hd⟩
end Go.Proofs.Ytkjlafklhdojmaa
