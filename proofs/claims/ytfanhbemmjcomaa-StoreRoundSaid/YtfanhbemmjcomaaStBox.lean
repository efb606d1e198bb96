/- A box apart of the store: what turns in it leaves the store as it was. -/
import Derived.Test.YtfanhbemmjcomaaStSame
namespace Go.Proofs.Ytfanhbemmjcomaa
open Go.RowKit
set_option linter.unusedVariables false

theorem two_cell {W : World} {g : Nat} {T : TypeId} {a b : Value} (h : Two W g T a b) (ha : ∀ c, a ≠ .int .u8 c) (hb : ∀ c, b ≠ .int .u8 c) (ad : Addr) (e : ad.block = g) (c : Int) : W.cell? ad ≠ some (.int .u8 c) := by
  have h' : W.heap[g]? = _ := h
  unfold World.cell?
  rw [e, h']
  intro hh
  by_cases hs : ad.spot.isSome = true
  · simp [hs] at hh
  · simp only [hs] at hh
    match ho : ad.off, hh with
    | 0, hh => exact ha c (by simpa using hh)
    | 1, hh => exact hb c (by simpa using hh)
    | k + 2, hh => simp at hh
theorem StAt.box {W W' : World} {base g bo bn sy gB : Nat} {v : Value} {L : List S.R} {T : TypeId} {a b : Value} (h : StAt W base g bo bn v L sy) (tw : Two W gB T a b) (ha : ∀ c, a ≠ .int .u8 c) (hb : ∀ c, b ≠ .int .u8 c) (hn : ¬ far g bo bn v gB) (t : Turn (fun i => i = gB) W W') : StAt W' base g bo bn v L sy := by
  have G : W.grownBy W' (some gB) := ⟨t.os, t.tape, t.output, t.size, fun k hk hne => t.block k hk (fun e => hne (by rw [e]))⟩
  obtain ⟨f, hf, hfx⟩ := h.objs
  refine ⟨h.hg, h.hbo, h.hbn, h.hne, Nat.le_trans h.hbase t.size, h.four.block (t.block g h.four.lt (fun e => hn (.inl e.symm))), h.row.kept G (.inr (fun e => hn (.inr (.inr (.inr e))))), ⟨f, hf.block (t.block bo hf.lt (fun e => hn (.inr (.inl e.symm)))), fun x => ⟨(hfx x).1, fun bs e => ?_⟩⟩, h.names.block (t.block bn h.names.lt (fun e => hn (.inr (.inr (.inl e.symm))))), h.sync, h.small, h.few⟩
  obtain ⟨u, h1, A, c, h2, h3, h4, h5, h6⟩ := (hfx x).2 bs e
  refine ⟨u, h1, A, c, h2, h3, h4, ⟨h5.1, fun hn => ?_⟩, fun ad e => ⟨(h6 ad e).1, Nat.lt_of_lt_of_le (h6 ad e).2.1 t.size, (h6 ad e).2.2⟩⟩
  obtain ⟨ad, e, hlt, hc⟩ := h5.2 hn
  have hne : ad.block ≠ gB := fun eb => by
    obtain ⟨d, hd⟩ : ∃ d, bs[0]? = some d := ⟨_, List.getElem?_eq_getElem hn⟩
    have h0 := hc 0 (.int .u8 (d.toNat : Int)) (by simp [bv, hd])
    have ea : ad.add 0 = ad := by simp [Addr.add]
    rw [ea] at h0
    exact two_cell tw ha hb ad eb _ h0
  refine ⟨ad, e, Nat.lt_of_lt_of_le hlt t.size, fun j u hu => ?_⟩
  rw [← hc j u hu]
  refine World.cell?_of_block ?_
  rw [block_of_add]
  exact t.block _ hlt hne
end Go.Proofs.Ytfanhbemmjcomaa
