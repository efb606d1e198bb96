/- Store.Put of what is new. -/
import Derived.Test.YtfanhbemmjcomaaStPut
namespace Go.Proofs.Ytfanhbemmjcomaa
open Go.RowKit
set_option linter.unusedVariables false

theorem MapAt.not_row {W : World} {b n m : Nat} {f : UInt64 → Option Value} {base : Nat} {e : TypeId} {size : Nat} {v : Value} {xs : List Value} (h : MapAt W b n f) (hr : W.ownsRow base e size v m xs) : some b ≠ v.ownBlock := by
  obtain ⟨es, c, hm⟩ := h.isMap
  rcases hr.2 with ⟨rfl, _⟩ | ⟨g', cap, cur, rfl, _, hh, _⟩
  · simp [Value.ownBlock]
  · intro e1
    have : b = g' := by simpa [Value.ownBlock] using e1
    subst this
    rw [hm] at hh; cases hh
theorem MapAt.not_four {W : World} {b n g : Nat} {f : UInt64 → Option Value} {T : TypeId} {a1 a2 a3 a4 : Value} (h : MapAt W b n f) (hf : Four W g T a1 a2 a3 a4) : some b ≠ some g := by
  intro e; injection e with e; subst e
  obtain ⟨es, c, hm⟩ := h.isMap
  have hq : W.heap[b]? = _ := hf
  rw [hq] at hm; cases hm
/-- What the log's growth does to the store. -/
structure Logged (w w3 : World) (base g bo bn : Nat) (v v' : Value) (L : List S.R) (fr : List UInt8) (sy : Nat) : Prop where
  four : Four w3 g 76 v' (.int .i64 (sy : Int)) (.map (some bo)) (.map (some bn))
  row : w3.ownsRow base 5 1 v' (S.log L ++ fr).length (bv (S.log L ++ fr))
  objs : ObjsAt w3 base bo L.length (far g bo bn v') L
  names : MapAt w3 bn L.length (fun x => (S.look L x).map fun k => .int .u64 (k.toNat : Int))
  turn : Turn (far g bo bn v) w w3
  newer : Newer w v v'
theorem log_step {w W w2 : World} {base g bo bn sy n k : Nat} {v v' : Value} {L : List S.R} {fr : List UInt8} (h : StAt w base g bo bn v L sy) (hW : Below w.heap.size w W) (hn : (S.log L).length = n) (hk : fr.length = k)
    (hgrow : W.grownBy w2 v.ownBlock) (hown : w2.ownsRow base 5 1 v' (n + k) (bv (S.log L) ++ bv fr)) (hat : v'.ownBlock = v.ownBlock ∨ v'.ownBlock = some W.heap.size) :
    Logged w (w2.setCell ⟨g, 0, none⟩ v') base g bo bn v v' L fr sy := by
  have hL := h.later hW
  obtain ⟨f, hf, _⟩ := id hL.objs
  have hf2 : Four w2 g 76 v (.int .i64 (sy : Int)) (.map (some bo)) (.map (some bn)) := hL.four.block (hgrow.block g hL.four.lt (hL.four.not_row (by decide) hL.row))
  have hs := set1_grown w2 ⟨g, 0, none⟩ v'
  have hs : w2.grownBy (w2.setCell ⟨g, 0, none⟩ v') (some g) := hs
  have t1 : Turn (far g bo bn v) w W := Turn.of_below _ hW
  have t2 : Turn (far g bo bn v) W w2 := Turn.of_grown hgrow (fun i e => .inl (.inr (.inr (.inr e))))
  have t3 : Turn (far g bo bn v) w2 (w2.setCell ⟨g, 0, none⟩ v') := Turn.of_grown hs (fun i e => .inl (.inl (by injection e with e; exact e.symm)))
  have t := (t1.trans t2 (fun i hi => .inl hi)).trans t3 (fun i hi => .inl hi)
  have hnew : Newer w v v' := by
    rcases hat with h1 | h1
    · exact .inl h1
    · exact .inr ⟨_, h1, hW.size⟩
  have hfl : f = f := rfl
  have hb : (w2.setCell ⟨g, 0, none⟩ v').heap[bo]? = w.heap[bo]? := by
    have hlt := hf.lt
    rw [hs.block bo (by have := hgrow.size; omega) (hf.not_four hL.four), hgrow.block bo hlt (hf.not_row hL.row)]
    obtain ⟨f0, hf0, _⟩ := h.objs
    exact hW.block bo hf0.lt
  have hm2 := (hL.names.kept hgrow (hL.names.not_row hL.row)).kept hs (hL.names.not_four hL.four)
  refine ⟨hf2.set0 _, ?_, h.objs.turn t hb hnew.far, hm2, t, hnew⟩
  have := hown.kept hs (.inr (hf2.not_row (by decide) hown).symm)
  rw [← bv_app] at this
  rw [List.length_append, hn, hk]
  exact this
/-- The store behind the map's store, a new object. -/
theorem put_step {w w3 w4 w5 : World} {base g bo bn sy len c' : Nat} {v v' : Value} {L : List S.R} {bs : List UInt8} {x : UInt64} {A' : Option Addr} {f : UInt64 → Option Value} (h : StAt w base g bo bn v L sy) (hl : Logged w w3 base g bo bn v v' L (S.frame (S.payload (.obj bs))) sy)
    (hb4 : Below w3.heap.size w3 w4) (hown : w4.ownsRow w3.heap.size 5 1 (.slice A' len c') len (bv bs)) (hlen : bs.length = len) (hlim : len ≤ 65536) (hx : S.key bs = x) (hget : S.get L x = none) (hfew : L.length < 200)
    (hf : MapAt w4 bo L.length f) (hfx : ∀ y, (S.get L y = none → f y = none) ∧ ∀ b, S.get L y = some b → ∃ u, f y = some u ∧ EltAt w4 base (far g bo bn v') b u)
    (hm : MapAt w5 bo (L.length + 1) (fun y => if x = y then some (.slice A' len c') else f y)) (hg : w4.grownBy w5 (some bo)) :
    StAt w5 base g bo bn v' (L ++ [.obj bs]) sy ∧ Turn (far g bo bn v) w w5 := by
  have hfour4 := hl.four.below hb4
  have hrow4 := own_below hl.row hb4
  have hn4 := hl.names.below hb4
  have hfr := hf.not_row hrow4
  have t4 : Turn (far g bo bn v') w3 w4 := Turn.of_below _ hb4
  have t5 : Turn (far g bo bn v') w4 w5 := Turn.of_grown hg (fun i e => .inl (.inr (.inl (by injection e with e; exact e.symm))))
  have tt : Turn (far g bo bn v) w w5 := (hl.turn.trans t4 (fun i hi => by have := hl.newer.far i hi; exact this)).trans t5 (fun i hi => hl.newer.far i hi)
  have hrow5 := hrow4.kept hg (.inr (fun e => hfr e.symm))
  have hlog : S.log (L ++ [.obj bs]) = S.log L ++ S.frame (S.payload (.obj bs)) := S.log_snoc _ _
  have hbw : base ≤ w3.heap.size := Nat.le_trans h.hbase hl.turn.size
  have hA := own_from hown
  refine ⟨⟨h.hg, h.hbo, h.hbn, h.hne, Nat.le_trans h.hbase tt.size, hfour4.block (hg.block g hfour4.lt (fun e => hf.not_four hfour4 e.symm)), by rw [hlog]; exact hrow5, ?_, ?_, ?_, ?_, by simp; omega⟩, tt⟩
  · rw [show (L ++ [S.R.obj bs]).length = L.length + 1 by simp]
    refine ⟨_, hm, fun y => ?_⟩
    show (_ → (if x = y then some (Value.slice A' len c') else f y) = none) ∧ ∀ b, _ → ∃ u, (if x = y then some (Value.slice A' len c') else f y) = some u ∧ _
    by_cases hxy : x = y
    · subst hxy
      rw [S.get_snoc_hit hx hget, if_pos rfl]
      refine ⟨fun e => (by cases e), fun b e => ?_⟩
      injection e with e; subst e
      refine ⟨_, rfl, A', c', by rw [hlen], by rw [hlen]; exact own_le hown, own_cap hown, ?_, fun ad e => ?_⟩
      · rw [hlen]
        exact Reads.of_own (hown.kept hg (by
          rcases hv : (Value.slice A' len c').ownBlock with _ | k
          · exact .inl rfl
          · have := hA k hv
            have hlt := hf.lt
            obtain ⟨f0, hf0, _⟩ := hl.objs
            exact .inr (by intro e; injection e with e; have := hf0.lt; omega)))
      · subst e
        have hk := hA ad.block rfl
        refine ⟨by omega, by have := hg.size; omega, ?_⟩
        obtain ⟨f0, hf0, _⟩ := hl.objs
        rintro (h1 | h1 | h1 | h1)
        · have := hl.four.lt; omega
        · have := hf0.lt; omega
        · have := hl.names.lt; omega
        · have := (own_from hl.row _ h1).2; omega
    · rw [S.get_snoc_miss (by rw [hx]; exact hxy), if_neg hxy]
      refine ⟨(hfx y).1, fun b e => ?_⟩
      obtain ⟨u, h1, h2⟩ := (hfx y).2 b e
      exact ⟨u, h1, h2.turn t5 (fun i hi => .inl hi)⟩
  · rw [show (L ++ [S.R.obj bs]).length = L.length + 1 by simp]
    have h1 := hn4.kept hg (fun e => h.hne (by injection e with e; exact e.symm))
    have h2 : MapAt w5 bn (L.length + 1) (fun x => (S.look L x).map fun k => .int .u64 (k.toNat : Int)) := by
      obtain ⟨D, h3, h4⟩ := h1
      exact ⟨D, h3.mono (by omega), h4⟩
    exact h2.congr fun y => by rw [S.look_snoc_obj]
  · rw [hlog, List.length_append]; have := h.sync; omega
  · intro b hb
    rcases List.mem_append.1 hb with hb | hb
    · exact h.small b hb
    · obtain rfl : b = bs := by simpa using hb
      omega
end Go.Proofs.Ytfanhbemmjcomaa
