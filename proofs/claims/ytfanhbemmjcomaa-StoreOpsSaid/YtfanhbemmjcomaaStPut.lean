/- Store.Put. -/
import Derived.Test.YtfanhbemmjcomaaStGet
import Derived.Deep.RegionLaw
import Derived.Deep.RegionHeld3
namespace Go.Proofs.Ytfanhbemmjcomaa
open Go.RowKit
set_option linter.unusedVariables false

/-- wp_append_any at a step of a region that draws its order. -/
theorem step_append_any {P : Program} {ops : Array Oper} {o : Oper} {a : Act} {w : World} {K : Act → World → Prop} {Q : Exit → Act → World → Prop} {E : Prop} (hgd : o.guard = none) (s x : Operand) (t : TypeId)
    (ho : o.op = .call { callee := .builtin .append, args := #[s, x], argTypes := #[t, t] })
    (base : Nat) (e : TypeId) (i : TypeInfo) (z : Value) (size bytes : Nat) (ht : P.underlying t = some (.slice e)) (hi : P.info? e = some i) (hz : i.zero = some z)
    (hsize : i.size = size) (hby : i.bytes = bytes) (hzs : z.cells.size = size) (hsz : 0 < size)
    (v : Value) (n : Nat) (xs : List Value) (hs : a.eval s = v) (hown : w.ownsRow base e size v n xs)
    (B : Nat) (A : Option Addr) (m c : Nat) (news : List Value) (hx : a.eval x = .slice A m c) (hr : Reads w B size A m news) (h1 : ∀ u ∈ news, u.oneCell' = true)
    (h63 : n + m ≤ maxLen) (hbytes : (n + m) * bytes ≤ 140737488355328) (hbase : base ≤ w.heap.size)
    (h : ∀ A' c' w', w'.ownsRow base e size (.slice A' (n + m) c') (n + m) (xs ++ news) → w.grownBy w' v.ownBlock → ((Value.slice A' (n + m) c').ownBlock = v.ownBlock ∨ (Value.slice A' (n + m) c').ownBlock = some w.heap.size) → K (a.put o.dst (.slice A' (n + m) c')) w') :
    if Region.wanted o (yielded ops a.tmps) = true then Oper.wp P o a w K Q else E := by
  have hw : Region.wanted o (yielded ops a.tmps) = true := by simp [Region.wanted, hgd]
  rw [if_pos hw]
  refine wp_append_any w s x t ho base e i z size bytes ht hi hz hsize hby hzs hsz v n xs hs hown B A m c news hx hr h1 h63 hbytes hbase ?_
  intro v' w' h2 h3 h4
  obtain ⟨A', c', rfl, _, _, _⟩ := own_reads h2
  exact h A' c' w' h2 h3 h4

theorem hash_obj (A : Option Addr) (len cap : Nat) (bs : List UInt8) (x : UInt64) (hx : S.key bs = x) (hl : bs.length = len) (hlen : len ≤ 1000000) (w : World) (hrd : Reads w w.heap.size 1 A len (bv bs)) :
    Calls Try.prog 18 #[.string ⟨#[111, 98, 106, 101, 99, 116]⟩, .slice A len cap] w fun e W' => e = .returned (.int .u64 (x.toNat : Int)) ∧ Below w.heap.size w W' := by
  subst hx
  exact bytes_any ⟨#[111, 98, 106, 101, 99, 116]⟩ (by decide) A len cap bs hl hlen w hrd
theorem frame_k (A : Option Addr) (len cap k : Nat) (bs fr : List UInt8) (hl : bs.length = len) (hf : S.frame bs = fr) (hk : fr.length = k) (hlen : len ≤ 500000) (w : World) (hr : Reads w w.heap.size 1 A len (bv bs)) :
    Calls Try.prog 37 #[.slice A len cap] w fun e w' => ∃ A' c', e = .returned (.slice A' k c') ∧ k ≤ c' ∧ w'.ownsRow w.heap.size 5 1 (.slice A' k c') k (bv fr) ∧ Below w.heap.size w w' := by
  subst hf hk
  refine (frame_any A len cap bs hl hlen w hr).mono ?_
  rintro e w' ⟨v, rfl, hown, hb⟩
  obtain ⟨A', c', rfl, hc, _, h⟩ := own_reads hown
  exact ⟨A', c', rfl, hc, h, hb⟩

/-- Put beyond the limit, of what is there, of what collides. -/
theorem put_limit (base g bo bn sy : Nat) (v : Value) (L : List S.R) (A : Option Addr) (len cap : Nat) (bs : List UInt8) (hl : bs.length = len) (hlim : 65536 < len) (w : World) :
    Calls Try.prog 12 #[.pointer (some ⟨g, 0, none⟩), .slice A len cap] w fun e w' => e = .returned (.tuple #[.int .u64 0, .int .i64 2]) ∧ w = w' := by
  have h1 : (65536 : Int) < (len : Int) := by omega
  clear hlim hl
  go_enter Try.func12, Try.ntmps12
  go_wp2_with fail
  go_ret2
  exact ⟨rfl, rfl⟩

set_option maxHeartbeats 1000000 in
theorem put_there (base g bo bn sy : Nat) (v : Value) (L : List S.R) (A : Option Addr) (len cap : Nat) (bs c : List UInt8) (x : UInt64) (hl : bs.length = len) (hlim : len ≤ 65536) (hx : S.key bs = x) (hget : S.get L x = some c) (w : World) (h : StAt w base g bo bn v L sy) (hr : Reads w w.heap.size 1 A len (bv bs)) (k : UInt64) (er : Int) (hk : (if c = bs then (x, (0 : Int)) else (0, 4)) = (k, er)) :
    Calls Try.prog 12 #[.pointer (some ⟨g, 0, none⟩), .slice A len cap] w fun e w' => e = .returned (.tuple #[.int .u64 (k.toNat : Int), .int .i64 er]) ∧ Below w.heap.size w w' := by
  have HX := Lib.hid hx
  have HL := Lib.hid hl
  have h1 : (len : Int) ≤ (65536 : Int) := by omega
  have hcl := h.small c (S.get_mem hget).1
  have HS := Lib.hid h
  have HG := Lib.hid hget
  obtain ⟨n, hn⟩ : ∃ n, c.length = n := ⟨_, rfl⟩
  rw [hn] at hcl
  have HN := Lib.hid hn
  clear hx hl h hget hn
  go_enter Try.func12, Try.ntmps12
  go_wp2_with fail
  refine (hash_obj A len cap bs x HX.out HL.out (by omega) w hr).mono ?_
  rintro e w1 ⟨rfl, hb1⟩
  have hs := HS.out.later hb1
  have hc2 := hs.four.cell2
  obtain ⟨f, hf, hfx⟩ := hs.objs
  obtain ⟨u, hu, A1, c1, rfl, h2, h3, h4, _⟩ := (hfx x).2 c HG.out
  have hlk := hf.look_some Try.underlying73 (zeroSl w1) hu
  rw [HN.out] at hlk h2 h4
  have hr1 := hr.later hb1
  clear hs hf hfx hu
  go_wp2_with fail
  refine (equal_b (decide (c = bs)) A1 A n c1 len cap c bs HN.out HL.out rfl (by omega) (by omega) _ h4 hr1).mono ?_
  rintro e w2 ⟨rfl, hb2⟩
  have hb := blater hb1 (Nat.le_refl _) hb2
  by_cases hcb : c = bs
  · rw [if_pos hcb] at hk
    injection hk with hk1 hk2
    subst hk1 hk2
    have hd : decide (c = bs) = true := decide_eq_true hcb
    rw [hd]
    clear hd hcb
    go_wp2_with fail
    go_ret2
    exact ⟨rfl, hb⟩
  · rw [if_neg hcb] at hk
    injection hk with hk1 hk2
    subst hk1 hk2
    have hd : decide (c = bs) = false := decide_eq_false hcb
    rw [hd]
    clear hd hcb
    go_wp2_with fail
    go_ret2
    exact ⟨rfl, hb⟩
end Go.Proofs.Ytfanhbemmjcomaa
