/- The reference's Bytes and Ops: the objects with a number, the operations made from numbers. A log that was made well: each record is valid where it stands; the objects that the operations make. No program in sight. -/
import Derived.Test.YtfanhbemmjcomaaStLives
namespace Go.Proofs.Ytfanhbemmjcomaa
open Go.RowKit
set_option linter.unusedVariables false
namespace S
/-- The object with a number. -/
def byte (n i : Nat) : UInt8 := UInt8.ofNat (n + i * 7)
def bytes (n : Nat) : List UInt8 := (List.range (n * n)).map (byte n)
theorem bytes_len (n : Nat) : (bytes n).length = n * n := by simp [bytes]
theorem bytes_take (n k : Nat) (h : k < n * n) : (bytes n).take (k + 1) = (bytes n).take k ++ [byte n k] := by
  have : (bytes n)[k]? = some (byte n k) := by
    unfold bytes
    rw [List.getElem?_map, List.getElem?_range h]; rfl
  rw [List.take_add_one, this]; rfl
theorem byte_form7 (n i : Nat) : ((n : Int) + (i : Int) * 7) % 256 = ((byte n i).toNat : Int) := by
  have h : (byte n i).toNat = (n + i * 7) % 256 := by simp [byte]
  rw [h]; omega
/-- An operation. -/
structure O where
  kind : Nat
  b : List UInt8
  name : UInt64
  num : Nat
def O.Ok (o : O) : Prop := o.kind ≤ 2 ∧ o.num ≤ 8 ∧ o.b = bytes o.num
theorem sq_le {n : Nat} (h : n ≤ 8) : n * n ≤ 64 := Nat.mul_le_mul h h
theorem O.Ok.len {o : O} (h : o.Ok) : o.b.length ≤ 64 := by rw [h.2.2, bytes_len]; exact sq_le h.2.1
/-- Do, over the records: the records, the key, the error. -/
def doo (L : List R) (o : O) : List R × UInt64 × Int :=
  if o.kind = 0 then put L o.b
  else if o.kind = 1 then ((bind L o.name (key (bytes o.num))).1, 0, (bind L o.name (key (bytes o.num))).2)
  else (L, 0, 0)
theorem doo_len (L : List R) (o : O) : (doo L o).1.length ≤ L.length + 1 := by
  unfold doo
  split
  · exact put_len L o.b
  · split
    · exact bind_len L _ _
    · exact Nat.le_succ _
end S

set_option maxRecDepth 10000 in
set_option maxHeartbeats 1000000 in
theorem obytes_any (n : Nat) (hn : n ≤ 8) (w : World) :
    Calls Try.prog 41 #[.int .i64 (n : Int)] w fun e w' => ∃ A c, e = .returned (.slice A (n * n) c) ∧ n * n ≤ c ∧ w'.ownsRow w.heap.size 5 1 (.slice A (n * n) c) (n * n) (bv (S.bytes n)) ∧ Below w.heap.size w w' := by
  obtain ⟨i0, hi, hz0, hz1, hz2⟩ := info_parts infoByte
  have hsq := S.sq_le hn
  have hbl := S.bytes_len n
  have hbt := S.bytes_take n
  obtain ⟨m, hm⟩ : ∃ m, n * n = m := ⟨_, rfl⟩
  have hmi : (n : Int) * (n : Int) = (m : Int) := by rw [← hm]; simp
  rw [hm] at hsq hbl hbt ⊢
  have hmw : IntKind.i64.wrap (m : Int) = (m : Int) := by rw [IntKind.wrap_i64]; omega
  have HBL := Lib.hid hbl
  have HBT := Lib.hid hbt
  clear hm hbl hbt
  go_enter Try.func41, Try.ntmps41
  go_wp2_with fail
  go_loopw [3, 4] (fun v i wr => ∃ k : Nat, k ≤ m ∧ i = .int .i64 (k : Int) ∧ wr.ownsRow w.heap.size 5 1 v k (bv ((S.bytes n).take k)) ∧ Below w.heap.size w wr) (fun _ i _ => m - (intOf i).toNat)
  case atStart => exact ⟨0, Nat.zero_le _, rfl, by simpa [bv] using World.ownsRow_nil _ _ _ _, Below.refl _ _⟩
  case round =>
    obtain ⟨k, hk, rfl, hown, hb2⟩ := hrel
    by_cases hlt : k < m
    · have hi2 : (k : Int) < (m : Int) := by omega
      have hi1 : (0 : Int) ≤ (k : Int) := by omega
      have hsh := S.byte_form7 n k
      have htk := HBT.out k hlt
      obtain ⟨c, hc⟩ : ∃ c, S.byte n k = c := ⟨_, rfl⟩
      rw [hc] at hsh htk
      have HTK := Lib.hid htk
      have hs2 := hb2.size
      clear hc htk
      go_wp2_with (at_builtin; refine wpList_append_any _ rfl _ _ 22 rfl w.heap.size 5 i0 (.int .u8 0) 1 1 Try.underlying22 hi hz0 hz1 hz2 rfl (by decide) _ _ _ rfl (hown.alloc _) _ _ 1 1 [.int .u8 (c.toNat : Int)] rfl (Reads.new wr [.int .u8 (c.toNat : Int)] 5 1 rfl) (by simp [Value.oneCell']) (by unfold maxLen; omega) (by omega) (by simp; omega) ?_; intro v' w2 hown' hgrow hat)
      go_roundw
      case rel => exact ⟨k + 1, by omega, by go_num, by rw [HTK.out, ← bv_snoc]; exact hown', (hb2.alloc hb2.size _).grown hgrow (by simp; omega) (fun k e => (own_from hown k e).1)⟩
      case measure => simp [intOf]; omega
    · have hkm : k = m := by omega
      subst hkm
      go_wp2_with fail
      go_ret
      rw [List.take_of_length_le (by rw [HBL.out]; exact Nat.le_refl _)] at hown
      obtain ⟨A, c, rfl, hc, _, h⟩ := own_reads hown
      exact ⟨A, c, rfl, hc, h, hb2⟩
end Go.Proofs.Ytfanhbemmjcomaa
namespace Go.Proofs.Ytfanhbemmjcomaa
set_option linter.unusedVariables false
namespace S
/-- A record that is valid behind L. -/
def fits (L : List R) : R → Prop
  | .obj b => get L (key b) = none ∧ b.length ≤ 65536
  | .bind n k => (∃ c, get L k = some c) ∧ look L n ≠ some k
/-- Each record is valid where it stands. -/
def Good (L : List R) : Prop := ∀ L1 r L2, L = L1 ++ r :: L2 → fits L1 r
theorem Good.nil : Good [] := fun L1 r L2 h => by simp at h
theorem Good.snoc {L : List R} {r : R} (h : Good L) (hr : fits L r) : Good (L ++ [r]) := by
  intro L1 r1 L2 e
  rcases List.eq_nil_or_concat L2 with rfl | ⟨L3, x, rfl⟩
  · obtain ⟨rfl, e2⟩ := List.append_inj' e rfl
    injection e2 with e2; subst e2
    exact hr
  · have e' : L ++ [r] = (L1 ++ r1 :: L3) ++ [x] := by rw [e]; simp
    obtain ⟨e1, _⟩ := List.append_inj' e' rfl
    exact h L1 r1 L3 e1
theorem Good.left {L M : List R} (h : Good (L ++ M)) : Good L := fun L1 r L2 e => h L1 r (L2 ++ M) (by rw [e]; simp)
theorem Good.take {L : List R} (h : Good L) (k : Nat) : Good (L.take k) := by
  have : Good (L.take k ++ L.drop k) := by rw [List.take_append_drop]; exact h
  exact this.left
theorem put_good {L : List R} (h : Good L) (b : List UInt8) : Good (put L b).1 := by
  unfold put
  split
  · exact h
  · rename_i hl
    cases hg : get L (key b) with
    | some c =>
      simp only
      split
      · exact h
      · exact h
    | none => exact h.snoc ⟨hg, by omega⟩
theorem bind_good {L : List R} (h : Good L) (n k : UInt64) : Good (bind L n k).1 := by
  unfold bind
  cases hg : get L k with
  | none => exact h
  | some c =>
    simp only
    split
    · exact h
    · rename_i hl
      exact h.snoc ⟨⟨c, hg⟩, hl⟩
theorem doo_good {L : List R} (h : Good L) (o : O) : Good (doo L o).1 := by
  unfold doo
  split
  · exact put_good h _
  · split
    · exact bind_good h _ _
    · exact h
theorem fits_put {L : List R} {b : List UInt8} (h : fits L (.obj b)) : put L b = (L ++ [.obj b], key b, 0) := by
  unfold put
  rw [if_neg (by have := h.2; omega), h.1]
theorem fits_bind {L : List R} {n k : UInt64} (h : fits L (.bind n k)) : bind L n k = (L ++ [.bind n k], 0) := by
  obtain ⟨⟨c, hc⟩, h2⟩ := h
  unfold bind
  rw [hc]
  exact if_neg h2
/-- The objects are those that the operations make. -/
def From (L : List R) : Prop := ∀ b, .obj b ∈ L → ∃ n, n ≤ 8 ∧ b = bytes n
theorem From.nil : From [] := fun b h => by simp at h
theorem From.snoc_obj {L : List R} (h : From L) {b : List UInt8} (hb : ∃ n, n ≤ 8 ∧ b = bytes n) : From (L ++ [.obj b]) := by
  intro c hc
  rcases List.mem_append.1 hc with hc | hc
  · exact h c hc
  · obtain rfl : c = b := by simpa using hc
    exact hb
theorem From.snoc_bind {L : List R} (h : From L) (n k : UInt64) : From (L ++ [.bind n k]) := by
  intro c hc
  rcases List.mem_append.1 hc with hc | hc
  · exact h c hc
  · simp at hc
theorem doo_from {L : List R} (h : From L) {o : O} (ho : o.Ok) : From (doo L o).1 := by
  unfold doo
  split
  · unfold put
    split
    · exact h
    · split
      · split
        · exact h
        · exact h
      · exact h.snoc_obj ⟨o.num, ho.2.1, ho.2.2⟩
  · split
    · unfold bind
      split
      · exact h
      · split
        · exact h
        · exact h.snoc_bind _ _
    · exact h
/-- 'own bytes'. -/
def own : List UInt8 := [111, 119, 110, 32, 98, 121, 116, 101, 115]
theorem own_keys : ∀ n : Fin 9, key (bytes n.val) ≠ key own := by decide +kernel
theorem From.own {L : List R} (h : From L) : get L (key own) = none := by
  cases hg : get L (key S.own) with
  | none => rfl
  | some b =>
    obtain ⟨h1, h2⟩ := get_mem hg
    obtain ⟨n, hn, rfl⟩ := h b h1
    exact absurd h2 (own_keys ⟨n, by omega⟩)
theorem From.put_own {L : List R} (h : From L) : put L S.own = (L ++ [.obj S.own], key S.own, 0) := by
  unfold put
  rw [if_neg (by decide), h.own]
end S
end Go.Proofs.Ytfanhbemmjcomaa
