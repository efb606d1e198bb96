/- The store laws' lives. -/
import Derived.Test.YtfanhbemmjcomaaStCrash
namespace Go.Proofs.Ytfanhbemmjcomaa
open Go.RowKit
set_option linter.unusedVariables false

theorem bind_lit (p : Int) (base g bo bn sy : Nat) (v : Value) (L : List S.R) (x k : UInt64) (hp : p = (x.toNat : Int)) (hfew : L.length < 200) (L' : List S.R) (er : Int) (hR : S.bind L x k = (L', er)) (w : World) (h : StAt w base g bo bn v L sy) :
    Calls Try.prog 13 #[.pointer (some ⟨g, 0, none⟩), .int .u64 p, .int .u64 (k.toNat : Int)] w fun e w' => ∃ v', e = .returned (.int .i64 er) ∧ StAt w' base g bo bn v' L' sy ∧ Turn (far g bo bn v) w w' ∧ Newer w v v' := by
  subst hp; exact bind_any base g bo bn sy v L x k hfew L' er hR w h
theorem lookup_lit (p : Int) (base g bo bn sy : Nat) (v : Value) (L : List S.R) (x k : UInt64) (b : Bool) (hp : p = (x.toNat : Int)) (hx : (match S.look L x with | some j => (j, true) | none => (0, false)) = (k, b)) (w : World) (h : StAt w base g bo bn v L sy) :
    Calls Try.prog 27 #[.pointer (some ⟨g, 0, none⟩), .int .u64 p] w fun e w' => e = .returned (.tuple #[.int .u64 (k.toNat : Int), .bool b]) ∧ w = w' := by
  subst hp; exact lookup_any base g bo bn sy v L x k b hx w h
theorem StAt.turn_below {w w' : World} {base g bo bn sy B : Nat} {v : Value} {L : List S.R} (h : StAt w base g bo bn v L sy) (ht : Turn (far g bo bn v) w w') (hB : B ≤ base) : Below B w w' :=
  ht.below (Nat.le_trans hB h.hbase) (fun i hi => Nat.le_trans hB (h.far_base i hi))
/-- Bytes as a string. -/
theorem conv_string (w : World) (A : Option Addr) (n c : Nat) (l : List UInt8) (hl : l.length = n) (hr : Reads w w.heap.size 1 A n (bv l)) :
    (convert 22 9 (.slice A n c)).run Try.prog w = .ok (.string ⟨l.toArray⟩) w := by
  subst hl
  rcases Nat.eq_zero_or_pos l.length with h0 | h0
  · have : l = [] := List.eq_nil_of_length_eq_zero h0
    subst this
    cases A with
    | none =>
      rw [run_convert_bytes_string w _ _ 5 none _ c Try.underlying22 Try.underlying5 Try.underlying9]
      rfl
    | some ad => exact run_convert_bytes_back w _ _ 5 ad c [] Try.underlying22 Try.underlying5 Try.underlying9 (fun j hj => absurd hj (by simp))
  · obtain ⟨ad, rfl, _, h2⟩ := hr.2 h0
    exact run_convert_bytes_back w _ _ 5 ad c l Try.underlying22 Try.underlying5 Try.underlying9 (fun j hj => h2 j _ (bv_getElem _ j _ (List.getElem?_eq_getElem hj)))

set_option maxHeartbeats 1000000 in
theorem lives_any (w : World) : Calls Try.prog 20 #[] w fun e W' => e = .returned (.bool true) ∧ Below w.heap.size w W' := by
  obtain ⟨x, hx⟩ : ∃ x, S.key [97] = x := ⟨_, rfl⟩
  have p1 := Lib.hid (show S.put [] [97] = ([.obj [97]], x, 0) from by rw [← hx]; unfold S.put; rw [if_neg (by decide)]; rfl)
  have p2 := Lib.hid (show S.get [.obj [97]] x = some [97] from S.get_obj_pos [] hx)
  have p3 := Lib.hid (show S.bind [.obj [97]] 5 x = ([.obj [97], .bind 5 x], 0) from by unfold S.bind; rw [p2.out]; rfl)
  have p4 := Lib.hid (show S.get [.obj [97], .bind 5 x] x = some [97] from S.get_obj_pos _ hx)
  have p5 := Lib.hid (show (S.log [.obj [97]]).length = 12 from by
    rw [S.log_cons, S.log_nil, List.append_nil]
    unfold S.frame
    rw [List.length_append, List.length_append, S.le8_len]
    decide)
  have p6 := Lib.hid (show (match S.look [.obj [97], .bind 5 x] 5 with | some j => (j, true) | none => (0, false)) = (x, true) from by simp [S.look])
  clear hx
  go_enter Try.func20, Try.ntmps20
  go_wp2_with fail
  refine (new_any w).mono ?_
  rintro e w1 ⟨g, bo, bn, rfl, hs1, hb1⟩
  have hcv := Lib.run_convert_bytes_const (P := Try.prog) w1 22 5 #[.int .u8 97] 1 1 Try.underlying22 Try.underlying5
  go_wp2_with fail
  have hr1 := Reads.newM w1 [.int .u8 97] 5 1 (1, 2) rfl
  have hd1 : Below w1.heap.size w1 (w1.alloc (.cells [.int .u8 97].toArray 5 (1, 2))) := (Below.refl _ _).alloc (Nat.le_refl _) _
  have hs2 := hs1.later hd1
  have hb2 := blater hb1 (Nat.le_refl _) hd1
  refine (put_any w.heap.size g bo bn 0 _ [] _ 1 1 [97] rfl (by simp) _ _ _ p1.out _ hs2 hr1 (by rintro ad e; injection e with e; subst e; simp) (by rintro ad e hf; injection e with e; subst e; have := hs1.far_lt _ hf; exact absurd this (Nat.lt_irrefl _))).mono ?_
  rintro e w3 ⟨v3, rfl, hs3, ht3, _⟩
  have hb3 := hb2.trans (hs2.turn_below ht3 (Nat.le_refl _))
  clear hs1 hs2 hr1 hd1 hb1 hb2 ht3 hcv
  go_wp2_with fail
  refine (sbytes_any w.heap.size g bo bn 0 12 v3 _ p5.out _ hs3).mono ?_
  rintro e w4 ⟨A4, c4, rfl, _, _, hd4⟩
  have hs4 := hs3.later hd4
  have hb4 := blater hb3 (Nat.le_refl _) hd4
  clear hs3 hd4 hb3
  go_wp2_with fail
  refine (bind_lit 5 w.heap.size g bo bn 0 v3 _ 5 x (by decide) (by simp) _ _ p3.out _ hs4).mono ?_
  rintro e w5 ⟨v5, rfl, hs5, ht5, _⟩
  have hb5 := hb4.trans (hs4.turn_below ht5 (Nat.le_refl _))
  clear hs4 ht5 hb4
  go_wp2_with fail
  refine (get_some w.heap.size g bo bn 0 1 v5 _ x [97] p4.out rfl _ hs5).mono ?_
  rintro e w6 ⟨A6, c6, rfl, _, hown6, hd6⟩
  have hs6 := hs5.later hd6
  have hb6 := blater hb5 (Nat.le_refl _) hd6
  have hcs := conv_string w6 A6 1 c6 [97] rfl (Reads.of_own hown6)
  clear hs5 hd6 hb5 hown6
  go_wp2_with fail
  refine (lookup_lit 5 w.heap.size g bo bn 0 v5 _ 5 x true (by decide) p6.out _ hs6).mono ?_
  rintro e w7 ⟨rfl, rfl⟩
  go_wp2_with fail
  refine (synced_any w.heap.size g bo bn 0 v5 _ _ hs6).mono ?_
  rintro e w7 ⟨rfl, rfl⟩
  obtain ⟨n, hn⟩ : ∃ n, (S.log [S.R.obj [97], S.R.bind 5 x]).length = n := ⟨_, rfl⟩
  have HN := Lib.hid hn
  clear hn
  go_wp2_with fail
  refine (crash_any w.heap.size g bo bn 0 n 0 0 (by omega) (by omega) v5 _ HN.out (by omega) _ hs6).mono ?_
  rintro e w7 ⟨A7, c7, rfl, _, _, hd7⟩
  have hb7 := blater hb6 (Nat.le_refl _) hd7
  go_wp2_with fail
  go_ret
  exact ⟨rfl, hb7⟩
end Go.Proofs.Ytfanhbemmjcomaa
