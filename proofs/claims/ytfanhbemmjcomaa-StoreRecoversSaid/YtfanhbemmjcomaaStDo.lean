/- The law's do; the reference's Key. -/
import Derived.Test.YtfanhbemmjcomaaStOps2
namespace Go.Proofs.Ytfanhbemmjcomaa
open Go.RowKit
set_option linter.unusedVariables false

set_option maxHeartbeats 400000 in
theorem key_any (A : Option Addr) (len cap : Nat) (bs : List UInt8) (x : UInt64) (hx : S.key bs = x) (hl : bs.length = len) (hlen : len ≤ 1000000) (w : World) (hr : Reads w w.heap.size 1 A len (bv bs)) :
    Calls Try.prog 35 #[.slice A len cap] w fun e w' => e = .returned (.int .u64 (x.toNat : Int)) ∧ Below w.heap.size w w' := by
  have hk : Calls Try.prog 50 #[.string ⟨#[111, 98, 106, 101, 99, 116]⟩, .slice A len cap] w fun e W' => e = .returned (.int .u64 (x.toNat : Int)) ∧ Below w.heap.size w W' := by
    subst hx
    exact rbytes_any ⟨#[111, 98, 106, 101, 99, 116]⟩ (by decide) A len cap bs hl hlen w hr
  clear hx hl hr
  go_enter Try.func35, Try.ntmps35
  go_wp2_with fail
  refine hk.mono ?_
  rintro e w1 ⟨rfl, hb⟩
  go_wp2_with fail
  go_ret
  exact ⟨rfl, hb⟩
theorem Turn.cell {F : Nat → Prop} {a b : World} (h : Turn F a b) {p : Addr} {v : Value} (hc : a.cell? p = some v) (hp : ¬ F p.block) : b.cell? p = some v := by
  rw [← hc]
  exact World.cell?_of_block (h.block _ (cell_lt hc) hp)

/-- Behind an operation. -/
def Done (w w' : World) (base g bo bn : Nat) (v : Value) (L' : List S.R) (sy' : Nat) : Prop := ∃ v', StAt w' base g bo bn v' L' sy' ∧ Turn (far g bo bn v) w w' ∧ Newer w v v'
set_option maxRecDepth 10000 in
set_option maxHeartbeats 4000000 in
theorem do_any (base g bo bn sy : Nat) (v : Value) (L : List S.R) (o : S.O) (ho : o.Ok) (kl kk kn : Nat) (nm : UInt64) (hkl : o.b.length = kl) (hkk : o.kind = kk) (hkn : o.num = kn) (hnm : o.name = nm) (Ab : Option Addr) (cb : Nat) (hfew : L.length < 200) (L' : List S.R) (k : UInt64) (er : Int) (hR : S.doo L o = (L', k, er)) (w : World) (h : StAt w base g bo bn v L sy) (hr : Reads w w.heap.size 1 Ab kl (bv o.b)) (hA : ∀ ad, Ab = some ad → ad.block < w.heap.size ∧ ¬ far g bo bn v ad.block) :
    Calls Try.prog 22 #[.pointer (some ⟨g, 0, none⟩), .agg #[.int .i64 (kk : Int), .slice Ab kl cb, .int .u64 (nm.toNat : Int), .int .i64 (kn : Int)]] w fun e w' =>
      e = .returned (.tuple #[.int .u64 (k.toNat : Int), .int .i64 er]) ∧ Done w w' base g bo bn v L' (if kk = 2 then (S.log L).length else sy) := by
  obtain ⟨hk2, hn8, hob⟩ := ho
  rw [hkk] at hk2
  rw [hkn] at hn8 hob
  obtain ⟨w1, hw1⟩ : ∃ x, w.alloc (.cells #[.int .i64 (kk : Int), .slice Ab kl cb, .int .u64 (nm.toNat : Int), .int .i64 (kn : Int)] 48) = x := ⟨_, rfl⟩
  have hd1 : Below w.heap.size w w1 := by rw [← hw1]; exact (Below.refl _ _).alloc (Nat.le_refl _) _
  have hfo := Four.new w 48 (.int .i64 (kk : Int)) (.slice Ab kl cb) (.int .u64 (nm.toNat : Int)) (.int .i64 (kn : Int))
  rw [hw1] at hfo
  have hs1 := h.later hd1
  have hfl := h.far_lt
  have c0 := hfo.cell0
  have c1 := hfo.cell1
  have c2 := hfo.cell2
  have c3 := hfo.cell3
  have ht1 : Turn (far g bo bn v) w w1 := Turn.of_below _ hd1
  have hnf : ¬ far g bo bn v w.heap.size := fun hf => by have := hfl _ hf; omega
  have HOB := Lib.hid hob
  have HKL := Lib.hid hkl
  have HSY := Lib.hid hs1
  unfold S.doo at hR
  rw [hkk, hkn, hnm] at hR
  clear hkk hkn hnm hob hkl
  by_cases h0 : kk = 0
  · subst h0
    rw [if_pos rfl] at hR
    have hr1 := hr.later hd1
    go_enter Try.func22, Try.ntmps22
    go_wp2_with fail
    have hw1 : w.alloc (.cells #[.int .i64 0, .slice Ab kl cb, .int .u64 (nm.toNat : Int), .int .i64 (kn : Int)] 48) = w1 := hw1
    rw [hw1]
    refine (put_any base g bo bn sy v L Ab kl cb o.b HKL.out hfew L' k er hR _ HSY.out hr1 (fun ad e => Nat.lt_of_lt_of_le (hA ad e).1 hd1.size) (fun ad e => (hA ad e).2)).mono ?_
    rintro e w2 ⟨v', rfl, hs2, ht2, hn2⟩
    clear c0 c1 c2 c3
    go_wp2_with fail
    go_ret2
    exact ⟨rfl, v', by first | exact hs2 | (rw [if_neg (by decide)]; exact hs2), ht1.trans ht2 (fun i hi => .inl hi), (Newer.refl _ _).trans hn2 hd1.size⟩
  · by_cases h1 : kk = 1
    · subst h1
      rw [if_neg (by decide), if_pos rfl] at hR
      obtain ⟨x, hx⟩ : ∃ x, S.key (S.bytes kn) = x := ⟨_, rfl⟩
      rw [hx] at hR
      obtain ⟨⟨L2, er2⟩, hB⟩ : ∃ r, S.bind L nm x = r := ⟨_, rfl⟩
      rw [hB] at hR
      injection hR with e1 e2; injection e2 with e2 e3
      have e1 : L2 = L' := e1
      have e3 : er2 = er := e3
      subst e1 e2 e3
      have HB := Lib.hid hB
      have HX := Lib.hid hx
      have hbl := S.bytes_len kn
      have hql := S.sq_le hn8
      obtain ⟨m, hm⟩ : ∃ m, kn * kn = m := ⟨_, rfl⟩
      have hby := fun W => obytes_any kn hn8 W
      simp only [hm] at hby hbl hql
      have HBL := Lib.hid hbl
      clear hB hx hm hbl h0
      have hdd : Below w1.heap.size w1 w1.drew := Below.drew (Below.refl w1.heap.size w1)
      have d2 : w1.drew.cell? ⟨w.heap.size, 2, none⟩ = some (.int .u64 (nm.toNat : Int)) := c2
      have d3 : w1.drew.cell? ⟨w.heap.size, 3, none⟩ = some (.int .i64 (kn : Int)) := c3
      go_enter Try.func22, Try.ntmps22
      go_wp2_with fail
      have hw1 : w.alloc (.cells #[.int .i64 1, .slice Ab kl cb, .int .u64 (nm.toNat : Int), .int .i64 (kn : Int)] 48) = w1 := hw1
      rw [hw1]
      go_region_held3 (fun w' => w'.cell? ⟨w.heap.size, 2, none⟩ = some (.int .u64 (nm.toNat : Int)) ∧ w'.cell? ⟨w.heap.size, 3, none⟩ = some (.int .i64 (kn : Int)))
        (first | exact ⟨d2, d3⟩ | assumption)
        (first
          | (go_at_call 41; refine (hby _).mono ?_; rintro e w2 ⟨A2, c2', rfl, _, hown2, hd2⟩; have hS2 := And.intro ((hd2.cell (cell_lt d2)).trans d2) ((hd2.cell (cell_lt d3)).trans d3))
          | (go_at_call 35; refine (key_any A2 m c2' (S.bytes kn) x HX.out HBL.out (by omega) _ (Reads.of_own hown2)).mono ?_; rintro e w3 ⟨rfl, hd3⟩; have hS3 := And.intro ((hd3.cell (cell_lt hS2.1)).trans hS2.1) ((hd3.cell (cell_lt hS2.2)).trans hS2.2); have hb3 := blater (blater hdd (Nat.le_refl _) hd2) (Nat.le_refl _) hd3)
          | (go_at_call 13; refine (bind_any base g bo bn sy v L nm x hfew L2 er2 HB.out _ (HSY.out.later hb3)).mono ?_; rintro e w4 ⟨v', rfl, hs4, ht4, hn4⟩; have hS4 := And.intro (ht4.cell hS3.1 hnf) (ht4.cell hS3.2 hnf)))
      have ht3 : Turn (far g bo bn v) w1 w3 := Turn.of_below _ hb3
      have hsz3 := hb3.size
      have hsz1 := hd1.size
      clear hS2 hS3 hS4 d2 d3 c0 c1 c2 c3 hown2 hd2 hd3 hdd
      go_wp2_with fail
      go_ret2
      exact ⟨rfl, v', by first | exact hs4 | (rw [if_neg (by decide)]; exact hs4), (ht1.trans ht3 (fun i hi => .inl hi)).trans ht4 (fun i hi => .inl hi), (Newer.refl _ _).trans hn4 (by omega)⟩
    · obtain rfl : kk = 2 := by omega
      rw [if_neg (by decide), if_neg (by decide)] at hR
      injection hR with e1 e2; injection e2 with e2 e3
      subst e1 e2 e3
      clear h0 h1
      go_enter Try.func22, Try.ntmps22
      go_wp2_with fail
      have hw1 : w.alloc (.cells #[.int .i64 2, .slice Ab kl cb, .int .u64 (nm.toNat : Int), .int .i64 (kn : Int)] 48) = w1 := hw1
      rw [hw1]
      refine (sync_any base g bo bn sy v L _ HSY.out).mono ?_
      rintro e w2 ⟨rfl, hs2, ht2⟩
      clear c0 c1 c2 c3
      go_wp2_with fail
      go_ret2
      exact ⟨rfl, v, by first | exact hs2 | (rw [if_pos rfl]; exact hs2), ht1.trans ht2 (fun i hi => .inl hi), Newer.refl _ _⟩
end Go.Proofs.Ytfanhbemmjcomaa
