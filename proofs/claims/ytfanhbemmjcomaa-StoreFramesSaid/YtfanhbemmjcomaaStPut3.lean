/- Store.Put. Store.Put of what is new. Store.Put of what is new, walked. -/
import Derived.Test.YtfanhbemmjcomaaStGet
import Derived.Deep.RegionLaw
import Derived.Deep.RegionHeld3
namespace Go.Proofs.Ytfanhbemmjcomaa
open Go.RowKit
set_option linter.unusedVariables false

/-- wp_append_any at a step of a region that draws its order. -/
theorem step_append_any {P : Program} {ops : Array Oper} {o : Oper} {a : Act} {w : World} {K : Act → World → Prop} {Q : Exit → Act → World → Prop} {E : Prop} (hgd : o.guard = none) (s x : Operand) (t : TypeId)
    (ho : o.op = .call { callee := .builtin .append, args := #[s, x], argTypes := #[t, t] })
    (base : Nat) (e : TypeId) (i : TypeInfo) (z : Value) (size bytes : Nat) (ht : P.underlying t = some (.slice e)) (hi : P.info? e = some i) (hz : i.zero = some z)
    (hsize : i.size = size) (hby : i.bytes = bytes) (hzs : z.cells.size = size) (hsz : 0 < size)
    (v : Value) (n : Nat) (xs : List Value) (hs : a.eval s = v) (hown : w.ownsRow base e size v n xs)
    (B : Nat) (A : Option Addr) (m c : Nat) (news : List Value) (hx : a.eval x = .slice A m c) (hr : Reads w B size A m news) (h1 : ∀ u ∈ news, u.oneCell' = true)
    (h63 : n + m ≤ maxLen) (hbytes : (n + m) * bytes ≤ 140737488355328) (hbase : base ≤ w.heap.size)
    (h : ∀ A' c' w', w'.ownsRow base e size (.slice A' (n + m) c') (n + m) (xs ++ news) → w.grownBy w' v.ownBlock → ((Value.slice A' (n + m) c').ownBlock = v.ownBlock ∨ (Value.slice A' (n + m) c').ownBlock = some w.heap.size) → K (a.put o.dst (.slice A' (n + m) c')) w') :
    if Region.wanted o (yielded ops a.tmps) = true then Oper.wp P o a w K Q else E := by
  have hw : Region.wanted o (yielded ops a.tmps) = true := by simp [Region.wanted, hgd]
  rw [if_pos hw]
  refine wp_append_any w s x t ho base e i z size bytes ht hi hz hsize hby hzs hsz v n xs hs hown B A m c news hx hr h1 h63 hbytes hbase ?_
  intro v' w' h2 h3 h4
  obtain ⟨A', c', rfl, _, _, _⟩ := own_reads h2
  exact h A' c' w' h2 h3 h4

theorem hash_obj (A : Option Addr) (len cap : Nat) (bs : List UInt8) (x : UInt64) (hx : S.key bs = x) (hl : bs.length = len) (hlen : len ≤ 1000000) (w : World) (hrd : Reads w w.heap.size 1 A len (bv bs)) :
    Calls Try.prog 18 #[.string ⟨#[111, 98, 106, 101, 99, 116]⟩, .slice A len cap] w fun e W' => e = .returned (.int .u64 (x.toNat : Int)) ∧ Below w.heap.size w W' := by
  subst hx
  exact bytes_any ⟨#[111, 98, 106, 101, 99, 116]⟩ (by decide) A len cap bs hl hlen w hrd
theorem frame_k (A : Option Addr) (len cap k : Nat) (bs fr : List UInt8) (hl : bs.length = len) (hf : S.frame bs = fr) (hk : fr.length = k) (hlen : len ≤ 500000) (w : World) (hr : Reads w w.heap.size 1 A len (bv bs)) :
    Calls Try.prog 37 #[.slice A len cap] w fun e w' => ∃ A' c', e = .returned (.slice A' k c') ∧ k ≤ c' ∧ w'.ownsRow w.heap.size 5 1 (.slice A' k c') k (bv fr) ∧ Below w.heap.size w w' := by
  subst hf hk
  refine (frame_any A len cap bs hl hlen w hr).mono ?_
  rintro e w' ⟨v, rfl, hown, hb⟩
  obtain ⟨A', c', rfl, hc, _, h⟩ := own_reads hown
  exact ⟨A', c', rfl, hc, h, hb⟩

/-- Put beyond the limit, of what is there, of what collides. -/
theorem put_limit (base g bo bn sy : Nat) (v : Value) (L : List S.R) (A : Option Addr) (len cap : Nat) (bs : List UInt8) (hl : bs.length = len) (hlim : 65536 < len) (w : World) :
    Calls Try.prog 12 #[.pointer (some ⟨g, 0, none⟩), .slice A len cap] w fun e w' => e = .returned (.tuple #[.int .u64 0, .int .i64 2]) ∧ w = w' := by
  have h1 : (65536 : Int) < (len : Int) := by omega
  clear hlim hl
  go_enter Try.func12, Try.ntmps12
  go_wp2_with fail
  go_ret2
  exact ⟨rfl, rfl⟩

set_option maxHeartbeats 1000000 in
theorem put_there (base g bo bn sy : Nat) (v : Value) (L : List S.R) (A : Option Addr) (len cap : Nat) (bs c : List UInt8) (x : UInt64) (hl : bs.length = len) (hlim : len ≤ 65536) (hx : S.key bs = x) (hget : S.get L x = some c) (w : World) (h : StAt w base g bo bn v L sy) (hr : Reads w w.heap.size 1 A len (bv bs)) (k : UInt64) (er : Int) (hk : (if c = bs then (x, (0 : Int)) else (0, 4)) = (k, er)) :
    Calls Try.prog 12 #[.pointer (some ⟨g, 0, none⟩), .slice A len cap] w fun e w' => e = .returned (.tuple #[.int .u64 (k.toNat : Int), .int .i64 er]) ∧ Below w.heap.size w w' := by
  have HX := Lib.hid hx
  have HL := Lib.hid hl
  have h1 : (len : Int) ≤ (65536 : Int) := by omega
  have hcl := h.small c (S.get_mem hget).1
  have HS := Lib.hid h
  have HG := Lib.hid hget
  obtain ⟨n, hn⟩ : ∃ n, c.length = n := ⟨_, rfl⟩
  rw [hn] at hcl
  have HN := Lib.hid hn
  clear hx hl h hget hn
  go_enter Try.func12, Try.ntmps12
  go_wp2_with fail
  refine (hash_obj A len cap bs x HX.out HL.out (by omega) w hr).mono ?_
  rintro e w1 ⟨rfl, hb1⟩
  have hs := HS.out.later hb1
  have hc2 := hs.four.cell2
  obtain ⟨f, hf, hfx⟩ := hs.objs
  obtain ⟨u, hu, A1, c1, rfl, h2, h3, h4, _⟩ := (hfx x).2 c HG.out
  have hlk := hf.look_some Try.underlying73 (zeroSl w1) hu
  rw [HN.out] at hlk h2 h4
  have hr1 := hr.later hb1
  clear hs hf hfx hu
  go_wp2_with fail
  refine (equal_b (decide (c = bs)) A1 A n c1 len cap c bs HN.out HL.out rfl (by omega) (by omega) _ h4 hr1).mono ?_
  rintro e w2 ⟨rfl, hb2⟩
  have hb := blater hb1 (Nat.le_refl _) hb2
  by_cases hcb : c = bs
  · rw [if_pos hcb] at hk
    injection hk with hk1 hk2
    subst hk1 hk2
    have hd : decide (c = bs) = true := decide_eq_true hcb
    rw [hd]
    clear hd hcb
    go_wp2_with fail
    go_ret2
    exact ⟨rfl, hb⟩
  · rw [if_neg hcb] at hk
    injection hk with hk1 hk2
    subst hk1 hk2
    have hd : decide (c = bs) = false := decide_eq_false hcb
    rw [hd]
    clear hd hcb
    go_wp2_with fail
    go_ret2
    exact ⟨rfl, hb⟩
end Go.Proofs.Ytfanhbemmjcomaa
namespace Go.Proofs.Ytfanhbemmjcomaa
open Go.RowKit
set_option linter.unusedVariables false

theorem MapAt.not_row {W : World} {b n m : Nat} {f : UInt64 → Option Value} {base : Nat} {e : TypeId} {size : Nat} {v : Value} {xs : List Value} (h : MapAt W b n f) (hr : W.ownsRow base e size v m xs) : some b ≠ v.ownBlock := by
  obtain ⟨es, c, hm⟩ := h.isMap
  rcases hr.2 with ⟨rfl, _⟩ | ⟨g', cap, cur, rfl, _, hh, _⟩
  · simp [Value.ownBlock]
  · intro e1
    have : b = g' := by simpa [Value.ownBlock] using e1
    subst this
    rw [hm] at hh; cases hh
theorem MapAt.not_four {W : World} {b n g : Nat} {f : UInt64 → Option Value} {T : TypeId} {a1 a2 a3 a4 : Value} (h : MapAt W b n f) (hf : Four W g T a1 a2 a3 a4) : some b ≠ some g := by
  intro e; injection e with e; subst e
  obtain ⟨es, c, hm⟩ := h.isMap
  have hq : W.heap[b]? = _ := hf
  rw [hq] at hm; cases hm
/-- What the log's growth does to the store. -/
structure Logged (w w3 : World) (base g bo bn : Nat) (v v' : Value) (L : List S.R) (fr : List UInt8) (sy : Nat) : Prop where
  four : Four w3 g 76 v' (.int .i64 (sy : Int)) (.map (some bo)) (.map (some bn))
  row : w3.ownsRow base 5 1 v' (S.log L ++ fr).length (bv (S.log L ++ fr))
  objs : ObjsAt w3 base bo L.length (far g bo bn v') L
  names : MapAt w3 bn L.length (fun x => (S.look L x).map fun k => .int .u64 (k.toNat : Int))
  turn : Turn (far g bo bn v) w w3
  newer : Newer w v v'
theorem log_step {w W w2 : World} {base g bo bn sy n k : Nat} {v v' : Value} {L : List S.R} {fr : List UInt8} (h : StAt w base g bo bn v L sy) (hW : Below w.heap.size w W) (hn : (S.log L).length = n) (hk : fr.length = k)
    (hgrow : W.grownBy w2 v.ownBlock) (hown : w2.ownsRow base 5 1 v' (n + k) (bv (S.log L) ++ bv fr)) (hat : v'.ownBlock = v.ownBlock ∨ v'.ownBlock = some W.heap.size) :
    Logged w (w2.setCell ⟨g, 0, none⟩ v') base g bo bn v v' L fr sy := by
  have hL := h.later hW
  obtain ⟨f, hf, _⟩ := id hL.objs
  have hf2 : Four w2 g 76 v (.int .i64 (sy : Int)) (.map (some bo)) (.map (some bn)) := hL.four.block (hgrow.block g hL.four.lt (hL.four.not_row (by decide) hL.row))
  have hs := set1_grown w2 ⟨g, 0, none⟩ v'
  have hs : w2.grownBy (w2.setCell ⟨g, 0, none⟩ v') (some g) := hs
  have t1 : Turn (far g bo bn v) w W := Turn.of_below _ hW
  have t2 : Turn (far g bo bn v) W w2 := Turn.of_grown hgrow (fun i e => .inl (.inr (.inr (.inr e))))
  have t3 : Turn (far g bo bn v) w2 (w2.setCell ⟨g, 0, none⟩ v') := Turn.of_grown hs (fun i e => .inl (.inl (by injection e with e; exact e.symm)))
  have t := (t1.trans t2 (fun i hi => .inl hi)).trans t3 (fun i hi => .inl hi)
  have hnew : Newer w v v' := by
    rcases hat with h1 | h1
    · exact .inl h1
    · exact .inr ⟨_, h1, hW.size⟩
  have hfl : f = f := rfl
  have hb : (w2.setCell ⟨g, 0, none⟩ v').heap[bo]? = w.heap[bo]? := by
    have hlt := hf.lt
    rw [hs.block bo (by have := hgrow.size; omega) (hf.not_four hL.four), hgrow.block bo hlt (hf.not_row hL.row)]
    obtain ⟨f0, hf0, _⟩ := h.objs
    exact hW.block bo hf0.lt
  have hm2 := (hL.names.kept hgrow (hL.names.not_row hL.row)).kept hs (hL.names.not_four hL.four)
  refine ⟨hf2.set0 _, ?_, h.objs.turn t hb hnew.far, hm2, t, hnew⟩
  have := hown.kept hs (.inr (hf2.not_row (by decide) hown).symm)
  rw [← bv_app] at this
  rw [List.length_append, hn, hk]
  exact this
/-- The store behind the map's store, a new object. -/
theorem put_step {w w3 w4 w5 : World} {base g bo bn sy len c' : Nat} {v v' : Value} {L : List S.R} {bs : List UInt8} {x : UInt64} {A' : Option Addr} {f : UInt64 → Option Value} (h : StAt w base g bo bn v L sy) (hl : Logged w w3 base g bo bn v v' L (S.frame (S.payload (.obj bs))) sy)
    (hb4 : Below w3.heap.size w3 w4) (hown : w4.ownsRow w3.heap.size 5 1 (.slice A' len c') len (bv bs)) (hlen : bs.length = len) (hlim : len ≤ 65536) (hx : S.key bs = x) (hget : S.get L x = none) (hfew : L.length < 200)
    (hf : MapAt w4 bo L.length f) (hfx : ∀ y, (S.get L y = none → f y = none) ∧ ∀ b, S.get L y = some b → ∃ u, f y = some u ∧ EltAt w4 base (far g bo bn v') b u)
    (hm : MapAt w5 bo (L.length + 1) (fun y => if x = y then some (.slice A' len c') else f y)) (hg : w4.grownBy w5 (some bo)) :
    StAt w5 base g bo bn v' (L ++ [.obj bs]) sy ∧ Turn (far g bo bn v) w w5 := by
  have hfour4 := hl.four.below hb4
  have hrow4 := own_below hl.row hb4
  have hn4 := hl.names.below hb4
  have hfr := hf.not_row hrow4
  have t4 : Turn (far g bo bn v') w3 w4 := Turn.of_below _ hb4
  have t5 : Turn (far g bo bn v') w4 w5 := Turn.of_grown hg (fun i e => .inl (.inr (.inl (by injection e with e; exact e.symm))))
  have tt : Turn (far g bo bn v) w w5 := (hl.turn.trans t4 (fun i hi => by have := hl.newer.far i hi; exact this)).trans t5 (fun i hi => hl.newer.far i hi)
  have hrow5 := hrow4.kept hg (.inr (fun e => hfr e.symm))
  have hlog : S.log (L ++ [.obj bs]) = S.log L ++ S.frame (S.payload (.obj bs)) := S.log_snoc _ _
  have hbw : base ≤ w3.heap.size := Nat.le_trans h.hbase hl.turn.size
  have hA := own_from hown
  refine ⟨⟨h.hg, h.hbo, h.hbn, h.hne, Nat.le_trans h.hbase tt.size, hfour4.block (hg.block g hfour4.lt (fun e => hf.not_four hfour4 e.symm)), by rw [hlog]; exact hrow5, ?_, ?_, ?_, ?_, by simp; omega⟩, tt⟩
  · rw [show (L ++ [S.R.obj bs]).length = L.length + 1 by simp]
    refine ⟨_, hm, fun y => ?_⟩
    show (_ → (if x = y then some (Value.slice A' len c') else f y) = none) ∧ ∀ b, _ → ∃ u, (if x = y then some (Value.slice A' len c') else f y) = some u ∧ _
    by_cases hxy : x = y
    · subst hxy
      rw [S.get_snoc_hit hx hget, if_pos rfl]
      refine ⟨fun e => (by cases e), fun b e => ?_⟩
      injection e with e; subst e
      refine ⟨_, rfl, A', c', by rw [hlen], by rw [hlen]; exact own_le hown, own_cap hown, ?_, fun ad e => ?_⟩
      · rw [hlen]
        exact Reads.of_own (hown.kept hg (by
          rcases hv : (Value.slice A' len c').ownBlock with _ | k
          · exact .inl rfl
          · have := hA k hv
            have hlt := hf.lt
            obtain ⟨f0, hf0, _⟩ := hl.objs
            exact .inr (by intro e; injection e with e; have := hf0.lt; omega)))
      · subst e
        have hk := hA ad.block rfl
        refine ⟨by omega, by have := hg.size; omega, ?_⟩
        obtain ⟨f0, hf0, _⟩ := hl.objs
        rintro (h1 | h1 | h1 | h1)
        · have := hl.four.lt; omega
        · have := hf0.lt; omega
        · have := hl.names.lt; omega
        · have := (own_from hl.row _ h1).2; omega
    · rw [S.get_snoc_miss (by rw [hx]; exact hxy), if_neg hxy]
      refine ⟨(hfx y).1, fun b e => ?_⟩
      obtain ⟨u, h1, h2⟩ := (hfx y).2 b e
      exact ⟨u, h1, h2.turn t5 (fun i hi => .inl hi)⟩
  · rw [show (L ++ [S.R.obj bs]).length = L.length + 1 by simp]
    have h1 := hn4.kept hg (fun e => h.hne (by injection e with e; exact e.symm))
    have h2 : MapAt w5 bn (L.length + 1) (fun x => (S.look L x).map fun k => .int .u64 (k.toNat : Int)) := by
      obtain ⟨D, h3, h4⟩ := h1
      exact ⟨D, h3.mono (by omega), h4⟩
    exact h2.congr fun y => by rw [S.look_snoc_obj]
  · rw [hlog, List.length_append]; have := h.sync; omega
  · intro b hb
    rcases List.mem_append.1 hb with hb | hb
    · exact h.small b hb
    · obtain rfl : b = bs := by simpa using hb
      omega
end Go.Proofs.Ytfanhbemmjcomaa
namespace Go.Proofs.Ytfanhbemmjcomaa
open Go.RowKit
set_option linter.unusedVariables false

set_option maxRecDepth 10000 in
set_option maxHeartbeats 4000000 in
theorem put_new (base g bo bn sy : Nat) (v : Value) (L : List S.R) (A : Option Addr) (len cap : Nat) (bs : List UInt8) (x : UInt64) (hl : bs.length = len) (hlim : len ≤ 65536) (hx : S.key bs = x) (hget : S.get L x = none) (hfew : L.length < 200) (w : World) (h : StAt w base g bo bn v L sy) (hr : Reads w w.heap.size 1 A len (bv bs)) (hA : ∀ ad, A = some ad → ad.block < w.heap.size) (hAf : ∀ ad, A = some ad → ¬ far g bo bn v ad.block) :
    Calls Try.prog 12 #[.pointer (some ⟨g, 0, none⟩), .slice A len cap] w fun e w' => ∃ v', e = .returned (.tuple #[.int .u64 (x.toNat : Int), .int .i64 0]) ∧ StAt w' base g bo bn v' (L ++ [.obj bs]) sy ∧ Turn (far g bo bn v) w w' ∧ Newer w v v' := by
  obtain ⟨i0, hi, hz0, hz1, hz2⟩ := info_parts infoByte
  have HX := Lib.hid hx
  have HL := Lib.hid hl
  have h1 : (len : Int) ≤ (65536 : Int) := by omega
  have HS := Lib.hid h
  have HG := Lib.hid hget
  have HA := Lib.hid hA
  have HAF := Lib.hid hAf
  obtain ⟨n, hn⟩ : ∃ n, (S.log L).length = n := ⟨_, rfl⟩
  have hnl := h.len
  rw [hn] at hnl
  have HN := Lib.hid hn
  obtain ⟨pl, hpl⟩ : ∃ pl, S.payload (.obj bs) = pl := ⟨_, rfl⟩
  obtain ⟨kp, hkp⟩ : ∃ k, pl.length = k := ⟨_, rfl⟩
  obtain ⟨fr, hfr⟩ : ∃ fr, S.frame pl = fr := ⟨_, rfl⟩
  obtain ⟨kf, hkf⟩ : ∃ k, fr.length = k := ⟨_, rfl⟩
  have hkp' : kp ≤ 65600 := by have := S.payload_len (.obj bs); rw [hpl, hkp] at this; simp only at this; omega
  have hkf' : kf ≤ 65700 := by have := S.frame_len pl; rw [hfr, hkf, hkp] at this; omega
  have HPL := Lib.hid hpl
  have HKP := Lib.hid hkp
  have HFR := Lib.hid hfr
  have HKF := Lib.hid hkf
  have hbase := h.hbase
  have hrow := h.row
  rw [hn] at hrow
  obtain ⟨A0, c0, rfl, _, _, _⟩ := own_reads hrow
  clear hrow
  clear hx hl h hget hn hpl hkp hfr hkf hA hAf
  go_enter Try.func12, Try.ntmps12
  go_wp2_with fail
  refine (hash_obj A len cap bs x HX.out HL.out (by omega) w hr).mono ?_
  rintro e w1 ⟨rfl, hb1⟩
  have hs1 := HS.out.later hb1
  have hc2 := hs1.four.cell2
  obtain ⟨f, hf, hfx⟩ := hs1.objs
  have hlk := hf.look_none Try.underlying73 (zeroSl w1) ((hfx x).1 HG.out)
  clear hf hfx hs1
  have hsz1 := hb1.size
  have ho := OutAt.new w1
  have hd0 : Below w1.heap.size w1 (w1.alloc (.cells #[.slice none 0 0] 32)) := (Below.refl _ _).alloc (Nat.le_refl _) _
  go_wp2_with fail
  refine (outUint_lit _ _ [] (V.enc 1) 1 1 rfl (by omega) (by simp) rfl _ ho).mono ?_
  rintro e w2 ⟨rfl, ho2, ht2⟩
  have hb2 := hd0.trans (ht2.below ho)
  have hl1 : (V.enc 1).length ≤ 10 := (V.enc_len 1).2
  clear hlk hc2
  go_wp2_with fail
  refine (outBytes_any _ _ (V.enc 1) A len cap bs HL.out (by omega) _ ho2 (hr.later (blater hb1 (Nat.le_refl _) hb2)) (far_below (n := 0) ho2 (fun ad e => by have := HA.out ad e; omega)) (fun ad e => by have := HA.out ad e; have := hb2.size; omega)).mono ?_
  rintro e w3 ⟨rfl, ho3, ht3⟩
  have ho3 : OutAt w3 w1.heap.size w1.heap.size pl := by
    have e1 : V.enc 1 ++ V.enc (UInt64.ofNat len) ++ bs = pl := by rw [← HPL.out]; show _ = V.enc 1 ++ (V.enc (UInt64.ofNat bs.length) ++ bs); rw [HL.out, List.append_assoc]
    rw [← e1]; exact ho3
  have hb3 := hb2.trans (ht3.below ho2)
  have hbW := blater hb1 (Nat.le_refl _) hb3
  have hbWd : Below w.heap.size w w3.drew := Below.drew hbW
  have ho3d : OutAt w3.drew w1.heap.size w1.heap.size pl := ho3.later (Below.drew (Below.refl w3.heap.size w3))
  clear ho ho2 ht2 ht3 hb2 hd0 hl1
  have cA := (HS.out.later hbWd).four.cell0
  go_wp2_with fail
  go_region_law (first
    | (refine step_append_any (by rfl) _ _ 22 (by rfl) base 5 i0 (.int .u8 0) 1 1 Try.underlying22 hi hz0 hz1 hz2 rfl (by omega) (.slice A0 n c0) n (bv (S.log L)) (by rfl) hownL wf.heap.size Af kf cf (bv fr) (by rfl) hrF (bv_one fr) (by unfold maxLen; omega) (by omega) hbwf ?_; intro A9 c9 w5 hown5 hgrow hat; have hlg := log_step (fr := fr) HS.out hbf HN.out HKF.out hgrow hown5 hat; have hfo5 := hSf.four.block (hgrow.block g hSf.four.lt (hSf.four.not_row (by decide) hSf.row)); have cD := hfo5.cell0; have fD := hfo5.frozen 0)
    | (go_simp; go_at_call 17; refine (done_reads _ _ kp pl HKP.out (by omega) _ ho3d).mono ?_; rintro e wd ⟨Ad, cd, rfl, hcd, hownd, hdd⟩; have hbd := blater hbWd (Nat.le_refl _) hdd; have cB := (HS.out.later hbd).four.cell0)
    | (go_simp; go_at_call 37; refine (frame_k Ad kp cd kf pl fr HKP.out HFR.out HKF.out (by omega) _ (Reads.of_own hownd)).mono ?_; rintro e wf ⟨Af, cf, rfl, hcf, hownf, hdf⟩; have hbf := blater hbd (Nat.le_refl _) hdf; have hSf := HS.out.later hbf; have cC := hSf.four.cell0; have hownL := hSf.row; rw [HN.out] at hownL; have hrF := Reads.of_own hownf; have hbwf := hSf.hbase))
  all_goals
    clear cA cB cC cD fD hownL hrF hfo5 hownf hdf hSf hownd hdd hbd hbf hbwf ho3d hbW hb3 hown5 hgrow hat hb1 hbWd
    obtain ⟨w6, hw6⟩ : ∃ x, w5.setCell ⟨g, 0, none⟩ (.slice A9 (n + kf) c9) = x := ⟨_, rfl⟩
    rw [hw6] at hlg ⊢
    clear hw6
    have hlg : Logged w w6 base g bo bn (.slice A0 n c0) (.slice A9 (n + kf) c9) L fr sy := hlg
    have hr6 := hlg.turn.reads hr (Nat.le_refl _) HAF.out
    have hs6 := hlg.turn.size
    have e2 := hlg.four.cell2
    have hdr : Below w6.heap.size w6 w6.drew := Below.drew (Below.refl w6.heap.size w6)
    have hr6d : Reads w6.drew w.heap.size 1 A len (bv bs) := hr6
    have HLG := Lib.hid hlg
    clear hlg hr6 ho3
    go_wp2_with fail
    go_region_law (first
      | (go_simp; go_at_call 38; refine (clone_any A len cap bs (by omega) w.heap.size _ (by show w.heap.size ≤ w6.heap.size; omega) hr6d).mono ?_; rintro e w7 ⟨v7, rfl, hown7, hd7⟩; obtain ⟨A7, c7, rfl, hc7, _, hown7⟩ := own_reads hown7; have hb7 := hdr.trans hd7; have e27 := (HLG.out.four.below hb7).cell2; obtain ⟨f0, hf0, hfx0⟩ := HLG.out.objs; have hlt0 := hf0.lt; obtain ⟨f, hf, hfx⟩ := HLG.out.objs.turn (Turn.of_below _ hb7) (hb7.block bo hlt0) (fun i hi => .inl hi); obtain ⟨w8, hrun, hm8, hg8⟩ := hf.put Try.underlying73 (by unfold maxLen; omega) x (.slice A7 len c7); clear hf0 hfx0))
    all_goals
      have hfin := put_step HS.out (bs := bs) (by rw [HPL.out, HFR.out]; exact HLG.out) hb7 hown7 HL.out hlim HX.out HG.out hfew hf hfx hm8 hg8
      clear hf hfx hm8 hg8 hrun e27 e2 hdr hr6d hb7 hown7 hd7
      go_wp2_with fail
      go_ret2
      exact ⟨_, rfl, hfin.1, hfin.2, HLG.out.newer⟩
end Go.Proofs.Ytfanhbemmjcomaa
