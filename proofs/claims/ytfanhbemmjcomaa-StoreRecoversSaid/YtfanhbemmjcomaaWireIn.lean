/- The reader: Fail, Err, End, NewIn, next. -/
import Derived.Test.YtfanhbemmjcomaaWireOut2
namespace Go.Proofs.Ytfanhbemmjcomaa
open Go.RowKit
set_option linter.unusedVariables false

/-- A block of two cells. -/
def Two (W : World) (g : Nat) (T : TypeId) (a b : Value) : Prop := W.heap[g]? = some (.cells #[a, b] T (0, 0))
section
variable {W W' : World} {g : Nat} {T : TypeId} {a b : Value}
theorem Two.lt (h : Two W g T a b) : g < W.heap.size := (Array.getElem?_eq_some_iff.1 h).1
theorem Two.cell0 (h : Two W g T a b) : W.cell? ⟨g, 0, none⟩ = some a := by simp [World.cell?, show W.heap[g]? = _ from h]
theorem Two.cell1 (h : Two W g T a b) : W.cell? ⟨g, 1, none⟩ = some b := by simp [World.cell?, show W.heap[g]? = _ from h]
theorem Two.frozen0 (h : Two W g T a b) : W.frozen? ⟨g, 0, none⟩ = false := by simp [World.frozen?, show W.heap[g]? = _ from h]
theorem Two.frozen1 (h : Two W g T a b) : W.frozen? ⟨g, 1, none⟩ = false := by simp [World.frozen?, show W.heap[g]? = _ from h]
theorem Two.new (W : World) (T : TypeId) (a b : Value) : Two (W.alloc (.cells #[a, b] T)) W.heap.size T a b := World.alloc_heap_new W _
theorem Two.set0 (h : Two W g T a b) (u : Value) : Two (W.setCell ⟨g, 0, none⟩ u) g T u b := by
  have h' : W.heap[g]? = _ := h
  unfold Two World.setCell
  simp [h', Array.getElem?_modify]
theorem Two.set1 (h : Two W g T a b) (u : Value) : Two (W.setCell ⟨g, 1, none⟩ u) g T a u := by
  have h' : W.heap[g]? = _ := h
  unfold Two World.setCell
  simp [h', Array.getElem?_modify]
theorem Two.kept {row : Option Nat} (h : Two W g T a b) (hg : W.grownBy W' row) (hne : some g ≠ row) : Two W' g T a b := (hg.block g h.lt hne).trans h
theorem Two.below (h : Two W g T a b) (hb : Below W.heap.size W W') : Two W' g T a b := (hb.block g h.lt).trans h
end
theorem only_alloc {a w : World} {row : Option Nat} (h : a.grownBy w row) (o : Obj) : a.grownBy (w.alloc o) row :=
  ⟨h.os, h.tape, h.output, Nat.le_trans h.size (by simp), fun i hi hne => (Below.heap_alloc w o i (Nat.lt_of_lt_of_le hi h.size)).trans (h.block i hi hne)⟩
theorem only_setCell {a w : World} {g : Nat} (h : a.grownBy w (some g)) {p : Addr} (hp : p.block = g ∨ a.heap.size ≤ p.block) (u : Value) : a.grownBy (w.setCell p u) (some g) :=
  ⟨h.os, h.tape, h.output, by simpa [World.setCell] using h.size, fun i hi hne => (Below.heap_setCell w p u i (by
    rintro rfl
    rcases hp with hp | hp
    · exact hne (by rw [hp])
    · omega)).trans (h.block i hi hne)⟩
theorem only_of_below {a w : World} (h : Below a.heap.size a w) (row : Option Nat) : a.grownBy w row := ⟨h.os, h.tape, h.output, h.size, fun i hi _ => h.block i hi⟩
theorem only_refl (w : World) (row : Option Nat) : w.grownBy w row := ⟨rfl, rfl, rfl, Nat.le_refl _, fun _ _ _ => rfl⟩
theorem only_trans {a b c : World} {row : Option Nat} (h : a.grownBy b row) (k : b.grownBy c row) : a.grownBy c row :=
  ⟨k.os.trans h.os, k.tape.trans h.tape, k.output.trans h.output, Nat.le_trans h.size k.size, fun i hi hne => (k.block i (Nat.lt_of_lt_of_le hi h.size) hne).trans (h.block i hi hne)⟩
/-- What only turned block g lies still below g. -/
theorem only_below {a b : World} {g : Nat} (h : a.grownBy b (some g)) (hg : g ≤ a.heap.size) : Below g a b :=
  ⟨h.os, h.tape, h.output, h.size, fun i hi => h.block i (by omega) (by intro e; injection e with e; omega)⟩

/-- A reader at block g, of the type T: its bytes lie below g. -/
def InAt (T : TypeId) (W : World) (g : Nat) (s : V.St) : Prop :=
  ∃ A c, Two W g T (.slice A s.1.length c) (.int .i64 s.2) ∧ s.1.length ≤ c ∧ c ≤ maxLen ∧ Reads W g 1 A s.1.length (bv s.1)
section
variable {T : TypeId} {W W' : World} {g : Nat} {s : V.St}
theorem InAt.lt (h : InAt T W g s) : g < W.heap.size := by obtain ⟨_, _, h, _⟩ := h; exact h.lt
theorem InAt.below (h : InAt T W g s) (hb : Below W.heap.size W W') : InAt T W' g s := by
  have hlt := h.lt
  obtain ⟨A, c, h1, h2, h3, h4⟩ := h
  exact ⟨A, c, h1.below hb, h2, h3, h4.below (hb.mono (by omega))⟩
theorem InAt.kept {row : Option Nat} (h : InAt T W g s) (hg : W.grownBy W' row) (hr : ∀ k, row = some k → g < k) : InAt T W' g s := by
  have hlt := h.lt
  obtain ⟨A, c, h1, h2, h3, h4⟩ := h
  exact ⟨A, c, h1.kept hg (fun e => by have := hr _ e.symm; omega), h2, h3, h4.grown hg (by omega) (fun k e => by have := hr k e; omega)⟩
theorem InAt.err (h : InAt T W g s) (x : Int) : InAt T (W.setCell ⟨g, 1, none⟩ (.int .i64 x)) g (s.1, x) := by
  obtain ⟨A, c, h1, h2, h3, h4⟩ := h
  exact ⟨A, c, h1.set1 _, h2, h3, h4.setCell (Nat.le_refl _) _⟩
/-- The reader's bytes are set anew. -/
theorem in_step {A : Option Addr} {c n : Nat} {bs : List UInt8} {x : Value} {e : Int} (h1 : Two W g T x (.int .i64 e)) (hN : bs.length = n) (hn : n ≤ c) (hc : c ≤ maxLen) (hr : Reads W g 1 A n (bv bs)) : InAt T (W.setCell ⟨g, 0, none⟩ (.slice A n c)) g (bs, e) := by
  subst hN
  exact ⟨A, c, h1.set0 _, hn, hc, hr.setCell (Nat.le_refl _) _⟩
end

set_option maxHeartbeats 400000 in
theorem inFail_any (g : Nat) (s : V.St) (x : Int) (w : World) (h : InAt 113 w g s) :
    Calls Try.prog 71 #[.pointer (some ⟨g, 0, none⟩), .int .i64 x] w fun e w' => e = .returned (.tuple #[]) ∧ InAt 113 w' g (V.fail s x) ∧ w.grownBy w' (some g) := by
  obtain ⟨bs, e⟩ := s
  have h' := h
  obtain ⟨A, c, h1, h2, h3, h4⟩ := h
  have hc1 := h1.cell1
  have hf1 := h1.frozen1
  unfold V.fail
  by_cases he : e = 0
  · subst he
    go_enter Try.func71, Try.ntmps71
    go_wp2
    go_end0
    refine ⟨rfl, ?_, only_setCell (only_refl _ _) (.inl rfl) _⟩
    simpa using h'.err x
  · go_enter Try.func71, Try.ntmps71
    go_wp2
    go_end0
    refine ⟨rfl, ?_, only_refl _ _⟩
    simpa [he] using h'

set_option maxHeartbeats 400000 in
theorem inErr_any (g : Nat) (s : V.St) (w : World) (h : InAt 113 w g s) :
    Calls Try.prog 59 #[.pointer (some ⟨g, 0, none⟩)] w fun e w' => e = .returned (.int .i64 s.2) ∧ w = w' := by
  obtain ⟨A, c, h1, h2, h3, h4⟩ := h
  have hc1 := h1.cell1
  have hf1 := h1.frozen1
  go_enter Try.func59, Try.ntmps59
  go_wp2
  go_ret
  exact ⟨rfl, rfl⟩

/-- What End answers. -/
def V.fin (s : V.St) : Int := if s.2 = 0 ∧ s.1 ≠ [] then 8 else s.2
set_option maxHeartbeats 400000 in
theorem inEnd_any (g : Nat) (s : V.St) (w : World) (h : InAt 113 w g s) :
    Calls Try.prog 63 #[.pointer (some ⟨g, 0, none⟩)] w fun e w' => e = .returned (.int .i64 (V.fin s)) ∧ w = w' := by
  obtain ⟨bs, e⟩ := s
  obtain ⟨A, c, h1, h2, h3, h4⟩ := h
  have hc0 := h1.cell0
  have hf0 := h1.frozen0
  have hc1 := h1.cell1
  have hf1 := h1.frozen1
  unfold V.fin
  by_cases he : e = 0
  · subst he
    cases bs with
    | nil =>
      go_enter Try.func63, Try.ntmps63
      go_wp2
      go_ret
      exact ⟨by simp, rfl⟩
    | cons b bs =>
      go_enter Try.func63, Try.ntmps63
      go_wp2
      go_ret
      exact ⟨by simp, rfl⟩
  · go_enter Try.func63, Try.ntmps63
    go_wp2
    go_ret
    exact ⟨rfl, rfl⟩

set_option maxHeartbeats 400000 in
theorem newIn_any (A : Option Addr) (len cap : Nat) (bs : List UInt8) (hbl : bs.length = len) (hl : len ≤ 20000000) (w : World) (hr : Reads w w.heap.size 1 A len (bv bs)) :
    Calls Try.prog 57 #[.slice A len cap] w fun e w' => ∃ g, e = .returned (.pointer (some ⟨g, 0, none⟩)) ∧ w.heap.size ≤ g ∧ InAt 113 w' g (bs, 0) ∧ Below w.heap.size w w' := by
  go_enter Try.func57, Try.ntmps57
  go_wp2_with fail
  refine (clone_any A len cap bs hl w.heap.size w (Nat.le_refl _) hr).mono ?_
  rintro e w1 ⟨v, rfl, hown, hb⟩
  have hcm : ∀ A c, v = .slice A len c → c ≤ maxLen := by
    rintro A c rfl
    have := own_cap hown; unfold maxLen; omega
  obtain ⟨A1, c1, rfl, hc1, hr1, _⟩ := own_reads hown
  go_wp2_with fail
  go_ret
  refine ⟨_, rfl, hb.size, ⟨A1, c1, ?_, by show bs.length ≤ c1; omega, hcm _ _ rfl, ?_⟩, hb.alloc hb.size _⟩
  · rw [show (bs, (0 : Int)).1.length = len from hbl]; exact Two.new _ _ _ _
  · rw [show (bs, (0 : Int)).1.length = len from hbl]; exact hr1.alloc (Nat.le_refl _) _

set_option maxHeartbeats 800000 in
theorem next_any (g : Nat) (s : V.St) (w : World) (h : InAt 113 w g s) :
    Calls Try.prog 70 #[.pointer (some ⟨g, 0, none⟩)] w fun e w' => e = .returned (.int .u8 ((V.next s).1.toNat : Int)) ∧ InAt 113 w' g (V.next s).2 ∧ w.grownBy w' (some g) := by
  obtain ⟨bs, e⟩ := s
  have h' := h
  obtain ⟨A, c, h1, h2, h3, h4⟩ := h
  have hc0 := h1.cell0
  have hf0 := h1.frozen0
  have hc1 := h1.cell1
  have hf1 := h1.frozen1
  cases bs with
  | nil =>
    have e2 : V.fail ([], e) 7 = (V.next ([], e)).2 := by unfold V.fail V.next; split <;> simp_all
    have e4 : (V.next ([], e)).1 = 0 := rfl
    have hne : (V.next ([], e)).2.2 ≠ 0 := by unfold V.next; show (if e = 0 then 7 else e) ≠ 0; split <;> simp_all
    obtain ⟨r, hr⟩ : ∃ r, V.next ([], e) = r := ⟨_, rfl⟩
    rw [hr] at e2 e4 hne ⊢
    clear hr
    obtain ⟨r1, r2, r3⟩ := r
    have E4 := Lib.hid e4
    clear e4
    go_enter Try.func70, Try.ntmps70
    go_wp2_with fail
    refine (inFail_any g ([], e) 7 _ h').mono ?_
    rintro e' w1 ⟨rfl, hi, hg⟩
    rw [e2] at hi
    have hi' := hi
    obtain ⟨A2, c2, k1, k2, k3, k4⟩ := hi
    have kc1 := k1.cell1
    have kf1 := k1.frozen1
    clear k1 k2 k3 k4 e2
    go_wp2_with fail
    go_ret
    exact ⟨by rw [E4.out]; rfl, hi', hg⟩
  | cons b bs =>
    by_cases he : e = 0
    · subst he
      obtain ⟨ad, u, rfl, hbk, hu, hcell⟩ := h4.at_ (k := 0) (by simp)
      obtain ⟨x, hx, rfl⟩ := bv_at hu
      obtain rfl : b = x := by simpa using hx
      rw [Addr.add_zero'] at hcell
      have hcut := h4.cut (k := 1) (cap := c) (by simp) (by simpa using h2)
      clear hu hx
      obtain ⟨n, hn⟩ : ∃ n, bs.length = n := ⟨_, rfl⟩
      have hN := Lib.hid hn
      simp only [List.length_cons] at h1 h2 h4 hc0 hcut
      rw [hn] at h1 h2 h4 hc0 hcut
      clear hn
      have hcut : Reads w g 1 (if c = 1 then some ad else some (ad.add 1)) n (bv bs) := by simpa [bv] using hcut
      by_cases hc : c = 1
      · subst hc
        obtain rfl : n = 0 := by omega
        rw [if_pos rfl] at hcut
        go_enter Try.func70, Try.ntmps70
        go_wp2
        go_ret
        exact ⟨rfl, in_step h1 hN.out (by omega) (by unfold maxLen; omega) hcut, only_setCell (only_refl _ _) (.inl rfl) _⟩
      · rw [if_neg hc] at hcut
        go_enter Try.func70, Try.ntmps70
        go_wp2
        go_ret
        exact ⟨rfl, in_step h1 hN.out (by omega) (by unfold maxLen at h3 ⊢; omega) hcut, only_setCell (only_refl _ _) (.inl rfl) _⟩
    · go_enter Try.func70, Try.ntmps70
      go_wp2
      go_ret
      exact ⟨by simp [V.next, he], by simp [V.next, he]; exact h', only_refl _ _⟩
end Go.Proofs.Ytfanhbemmjcomaa
