/- Store.Crash; Put and Bind in one statement each. -/
import Derived.Test.YtfanhbemmjcomaaStBind
namespace Go.Proofs.Ytfanhbemmjcomaa
open Go.RowKit
set_option linter.unusedVariables false

theorem put_any (base g bo bn sy : Nat) (v : Value) (L : List S.R) (A : Option Addr) (len cap : Nat) (bs : List UInt8) (hl : bs.length = len) (hfew : L.length < 200) (L' : List S.R) (k : UInt64) (er : Int) (hR : S.put L bs = (L', k, er)) (w : World) (h : StAt w base g bo bn v L sy) (hr : Reads w w.heap.size 1 A len (bv bs)) (hA : ∀ ad, A = some ad → ad.block < w.heap.size) (hAf : ∀ ad, A = some ad → ¬ far g bo bn v ad.block) :
    Calls Try.prog 12 #[.pointer (some ⟨g, 0, none⟩), .slice A len cap] w fun e w' => ∃ v', e = .returned (.tuple #[.int .u64 (k.toNat : Int), .int .i64 er]) ∧ StAt w' base g bo bn v' L' sy ∧ Turn (far g bo bn v) w w' ∧ Newer w v v' := by
  unfold S.put at hR
  by_cases hlim : 65536 < bs.length
  · rw [if_pos hlim] at hR
    injection hR with h1 h2; injection h2 with h2 h3
    subst h1 h2 h3
    refine (put_limit base g bo bn sy v L A len cap bs hl (by omega) w).mono ?_
    rintro e w' ⟨rfl, rfl⟩
    exact ⟨v, rfl, h, Turn.refl _ _, Newer.refl _ _⟩
  · rw [if_neg hlim] at hR
    cases hg : S.get L (S.key bs) with
    | none =>
      rw [hg] at hR
      injection hR with h1 h2; injection h2 with h2 h3
      subst h1 h2 h3
      exact put_new base g bo bn sy v L A len cap bs _ hl (by omega) rfl hg hfew w h hr hA hAf
    | some c =>
      rw [hg] at hR
      have hR' : L = L' ∧ (if c = bs then (S.key bs, (0 : Int)) else (0, 4)) = (k, er) := by
        by_cases hc : c = bs
        · simp only [if_pos hc] at hR ⊢
          injection hR with h1 h2; exact ⟨h1, h2⟩
        · simp only [if_neg hc] at hR ⊢
          injection hR with h1 h2; exact ⟨h1, h2⟩
      obtain ⟨rfl, hk⟩ := hR'
      refine (put_there base g bo bn sy v L A len cap bs c _ hl (by omega) rfl hg w h hr k er hk).mono ?_
      rintro e w' ⟨rfl, hb⟩
      exact ⟨v, rfl, h.later hb, Turn.of_below _ hb, Newer.refl _ _⟩
theorem bind_any (base g bo bn sy : Nat) (v : Value) (L : List S.R) (x k : UInt64) (hfew : L.length < 200) (L' : List S.R) (er : Int) (hR : S.bind L x k = (L', er)) (w : World) (h : StAt w base g bo bn v L sy) :
    Calls Try.prog 13 #[.pointer (some ⟨g, 0, none⟩), .int .u64 (x.toNat : Int), .int .u64 (k.toNat : Int)] w fun e w' => ∃ v', e = .returned (.int .i64 er) ∧ StAt w' base g bo bn v' L' sy ∧ Turn (far g bo bn v) w w' ∧ Newer w v v' := by
  unfold S.bind at hR
  cases hg : S.get L k with
  | none =>
    rw [hg] at hR
    injection hR with h1 h2
    subst h1 h2
    refine (bind_none base g bo bn sy v L x k hg w h).mono ?_
    rintro e w' ⟨rfl, rfl⟩
    exact ⟨v, rfl, h, Turn.refl _ _, Newer.refl _ _⟩
  | some c =>
    rw [hg] at hR
    by_cases hl : S.look L x = some k
    · simp only [if_pos hl] at hR
      injection hR with h1 h2
      subst h1 h2
      refine (bind_same base g bo bn sy v L x k c hg hl w h).mono ?_
      rintro e w' ⟨rfl, rfl⟩
      exact ⟨v, rfl, h, Turn.refl _ _, Newer.refl _ _⟩
    · simp only [if_neg hl] at hR
      injection hR with h1 h2
      subst h1 h2
      exact bind_new base g bo bn sy v L x k c hg hl hfew w h

set_option maxRecDepth 10000 in
set_option maxHeartbeats 2000000 in
theorem crash_any (base g bo bn sy n m : Nat) (left : Int) (hl1 : -9223372036854775808 ≤ left) (hl2 : left ≤ 9223372036854775807) (v : Value) (L : List S.R) (hn : (S.log L).length = n) (hm : (m : Int) = sy + max 0 (min left ((n : Int) - sy))) (w : World) (h : StAt w base g bo bn v L sy) :
    Calls Try.prog 30 #[.pointer (some ⟨g, 0, none⟩), .int .i64 left] w fun e w' => ∃ A c, e = .returned (.slice A m c) ∧ m ≤ c ∧ w'.ownsRow w.heap.size 5 1 (.slice A m c) m (bv ((S.log L).take m)) ∧ Below w.heap.size w w' := by
  have hl := h.len
  rw [hn] at hl
  have hc0 := h.four.cell0
  have hc1 := h.four.cell1
  have hrow := h.row
  rw [hn] at hrow
  have hsy := h.sync
  rw [hn] at hsy
  obtain ⟨A, c, rfl, hc, hr, _⟩ := own_reads hrow
  have hcap := own_cap hrow
  have hmn : m ≤ n := by omega
  have htk := hr.take hmn
  rw [← few_take] at htk
  have hrd : Reads w.drew w.drew.heap.size 1 A m (bv ((S.log L).take m)) := htk
  clear h hrow hn hr htk
  obtain ⟨bs, hbs⟩ : ∃ bs, (S.log L).take m = bs := ⟨_, rfl⟩
  rw [hbs] at hrd ⊢
  clear hbs
  have hd0 : w.drew.cell? ⟨g, 0, none⟩ = some (.slice A n c) := hc0
  have hd1 : w.drew.cell? ⟨g, 1, none⟩ = some (.int .i64 (sy : Int)) := hc1
  have hw1 : IntKind.i64.wrap ((n : Int) - (sy : Int)) = (n : Int) - (sy : Int) := by rw [IntKind.wrap_i64]; omega
  have hcases : (left ≤ 0 ∧ sy = m) ∨ (∃ l : Nat, left = (l : Int) ∧ 0 < l ∧ sy + l ≤ n ∧ sy + l = m) ∨ ((n : Int) - (sy : Int) < left ∧ sy < n ∧ n = m) ∨ ((n : Int) - (sy : Int) < left ∧ n ≤ sy ∧ sy = m) := by
    by_cases h1 : left ≤ 0
    · exact .inl ⟨h1, by omega⟩
    · by_cases h2 : left ≤ (n : Int) - (sy : Int)
      · obtain ⟨l, rfl⟩ := Int.eq_ofNat_of_zero_le (show 0 ≤ left by omega)
        exact .inr (.inl ⟨l, rfl, by omega, by omega, by omega⟩)
      · by_cases h3 : sy < n
        · exact .inr (.inr (.inl ⟨by omega, h3, by omega⟩))
        · exact .inr (.inr (.inr ⟨by omega, by omega, by omega⟩))
  clear hm
  have hw4 : IntKind.i64.wrap (sy : Int) = (sy : Int) := by rw [IntKind.wrap_i64]; omega
  rcases hcases with ⟨h1, rfl⟩ | ⟨l, rfl, h0, h1, rfl⟩ | ⟨h1, h0, rfl⟩ | ⟨h1, h0, rfl⟩
  · have hq1 : ¬ ((n : Int) - (sy : Int) < left) := by omega
    have hq2 : ¬ (0 < left) := by omega
    have hz : (0 : Int) ≤ (sy : Int) := by omega
    have hz2 : (sy : Int) ≤ (c : Int) := by omega
    have hz5 : sy ≤ c := by omega
    go_enter Try.func30, Try.ntmps30
    go_wp2_with fail
    have hq1 : ((n : Int) - (sy : Int) < left) = False := eq_false (by omega)
    have hq2 : ((0 : Int) < left) = False := eq_false (by omega)
    go_region_held3 (fun w' => w'.cell? ⟨g, 0, none⟩ = some (.slice A n c) ∧ w'.cell? ⟨g, 1, none⟩ = some (.int .i64 (sy : Int)))
      (first | exact ⟨hd0, hd1⟩ | assumption)
      (first
        | (go_at_call 38; refine (clone_any A sy c bs (by omega) _ _ (Nat.le_refl _) hrd).mono ?_; rintro e w1 ⟨v, rfl, hown, hb⟩; have hS1 := And.intro ((hb.cell (p := ⟨g, 0, none⟩) (cell_lt hd0)).trans hd0) ((hb.cell (p := ⟨g, 1, none⟩) (cell_lt hd1)).trans hd1)))
    go_wp2_with fail
    go_ret
    obtain ⟨A', c', rfl, hc', _, hown'⟩ := own_reads hown
    exact ⟨A', c', rfl, hc', hown', blater (Below.drew (Below.refl _ _)) (Nat.le_refl _) hb⟩
  · have hq1 : ¬ ((n : Int) - (sy : Int) < (l : Int)) := by omega
    have hq2 : (0 : Int) < (l : Int) := by omega
    have hw2 : IntKind.i64.wrap ((sy : Int) + (l : Int)) = (sy : Int) + (l : Int) := by rw [IntKind.wrap_i64]; omega
    have hz : (0 : Int) ≤ (sy : Int) + (l : Int) := by omega
    have hz2 : (sy : Int) + (l : Int) ≤ (c : Int) := by omega
    have hz5 : sy + l ≤ c := by omega
    have hz3 : ((sy : Int) + (l : Int)).toNat = sy + l := by omega
    go_enter Try.func30, Try.ntmps30
    go_wp2_with fail
    have hq1 : ((n : Int) - (sy : Int) < (l : Int)) = False := eq_false (by omega)
    go_region_held3 (fun w' => w'.cell? ⟨g, 0, none⟩ = some (.slice A n c) ∧ w'.cell? ⟨g, 1, none⟩ = some (.int .i64 (sy : Int)))
      (first | exact ⟨hd0, hd1⟩ | assumption)
      (first
        | (go_at_call 38; refine (clone_any A (sy + l) c bs (by omega) _ _ (Nat.le_refl _) hrd).mono ?_; rintro e w1 ⟨v, rfl, hown, hb⟩; have hS1 := And.intro ((hb.cell (p := ⟨g, 0, none⟩) (cell_lt hd0)).trans hd0) ((hb.cell (p := ⟨g, 1, none⟩) (cell_lt hd1)).trans hd1)))
    go_wp2_with fail
    go_ret
    obtain ⟨A', c', rfl, hc', _, hown'⟩ := own_reads hown
    exact ⟨A', c', rfl, hc', hown', blater (Below.drew (Below.refl _ _)) (Nat.le_refl _) hb⟩
  · have hq2 : (0 : Int) < (n : Int) - (sy : Int) := by omega
    have hq3 : (sy : Int) < (n : Int) := by omega
    have hw3 : (sy : Int) + ((n : Int) - (sy : Int)) = (n : Int) := by omega
    have hw2 : IntKind.i64.wrap (n : Int) = (n : Int) := by rw [IntKind.wrap_i64]; omega
    have hw5 : IntKind.i64.wrap ((sy : Int) + ((n : Int) - (sy : Int))) = (n : Int) := by rw [hw3, hw2]
    have hz : (0 : Int) ≤ (n : Int) := by omega
    have hz2 : (n : Int) ≤ (c : Int) := by omega
    go_enter Try.func30, Try.ntmps30
    go_wp2_with fail
    go_region_held3 (fun w' => w'.cell? ⟨g, 0, none⟩ = some (.slice A n c) ∧ w'.cell? ⟨g, 1, none⟩ = some (.int .i64 (sy : Int)))
      (first | exact ⟨hd0, hd1⟩ | assumption)
      (first
        | (go_at_call 38; refine (clone_any A n c bs (by omega) _ _ (Nat.le_refl _) hrd).mono ?_; rintro e w1 ⟨v, rfl, hown, hb⟩; have hS1 := And.intro ((hb.cell (p := ⟨g, 0, none⟩) (cell_lt hd0)).trans hd0) ((hb.cell (p := ⟨g, 1, none⟩) (cell_lt hd1)).trans hd1)))
    go_wp2_with fail
    go_ret
    obtain ⟨A', c', rfl, hc', _, hown'⟩ := own_reads hown
    exact ⟨A', c', rfl, hc', hown', blater (Below.drew (Below.refl _ _)) (Nat.le_refl _) hb⟩
  · have hq2 : ¬ ((0 : Int) < (n : Int) - (sy : Int)) := by omega
    have hq3 : ¬ ((sy : Int) < (n : Int)) := by omega
    have hz : (0 : Int) ≤ (sy : Int) := by omega
    have hz2 : (sy : Int) ≤ (c : Int) := by omega
    have hz5 : sy ≤ c := by omega
    go_enter Try.func30, Try.ntmps30
    go_wp2_with fail
    have hq2 : ((0 : Int) < (n : Int) - (sy : Int)) = False := eq_false (by omega)
    have hq3 : ((sy : Int) < (n : Int)) = False := eq_false (by omega)
    have hq4 : (sy < n) = False := eq_false (by omega)
    go_region_held3 (fun w' => w'.cell? ⟨g, 0, none⟩ = some (.slice A n c) ∧ w'.cell? ⟨g, 1, none⟩ = some (.int .i64 (sy : Int)))
      (first | exact ⟨hd0, hd1⟩ | assumption)
      (first
        | (go_at_call 38; refine (clone_any A sy c bs (by omega) _ _ (Nat.le_refl _) hrd).mono ?_; rintro e w1 ⟨v, rfl, hown, hb⟩; have hS1 := And.intro ((hb.cell (p := ⟨g, 0, none⟩) (cell_lt hd0)).trans hd0) ((hb.cell (p := ⟨g, 1, none⟩) (cell_lt hd1)).trans hd1)))
    go_wp2_with fail
    go_ret
    obtain ⟨A', c', rfl, hc', _, hown'⟩ := own_reads hown
    exact ⟨A', c', rfl, hc', hown', blater (Below.drew (Below.refl _ _)) (Nat.le_refl _) hb⟩
end Go.Proofs.Ytfanhbemmjcomaa
