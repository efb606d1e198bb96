/- The walk of HashOneLabel. -/
import Derived.Test.YtfdcfbpflgbjgaaHashLawsO
namespace Go.Proofs.Ytfdcfbpflgbjgaa
open Go.RowKit
set_option linter.unusedVariables false

theorem reads_bytesRow' (w : World) (s : ByteArray) (cap : Nat) (e : TypeId) (fr : Nat × Nat) (n : Nat) (l : List UInt8) (hn : s.size = n) (hl : s.data.toList = l) : Reads (w.alloc (.cells (bytesRow s cap) e fr)) (w.heap.size + 1) 1 (some ⟨w.heap.size, 0, none⟩) n (bv l) := by
  subst hn hl; exact reads_bytesRow w s cap e fr
/-- 'string(b)', b's cells known. -/
theorem conv_back (g n cap : Nat) (l : List UInt8) (hl : l.length = n) (t : ByteArray) (ht : (⟨l.toArray⟩ : ByteArray) = t) (W : World) (h : Reads W W.heap.size 1 (some ⟨g, 0, none⟩) n (bv l)) :
    (convert 30 9 (.slice (some ⟨g, 0, none⟩) n cap)).run Try.prog W = .ok (.string t) W := by
  subst hl ht
  refine run_convert_bytes_back W _ _ _ _ cap l Try.underlying30 Try.underlying5 Try.underlying9 (fun j hj => ?_)
  obtain ⟨ad, u, e, _, hu, hc⟩ := h.at_ hj
  injection e with e
  subst e
  rw [hc]
  obtain ⟨c, hc2, rfl⟩ := bv_at hu
  rw [List.getElem?_eq_getElem hj] at hc2
  injection hc2 with hc2
  rw [hc2]

theorem keep4 {w1 w2 : World} {A A' A2 : Option Addr} {n n' n2 : Nat} {xs ys zs : List Value} {B : Nat} {a : World} (hB : B ≤ a.heap.size)
    (h : Reads w1 w1.heap.size 1 A n xs ∧ Reads w1 w1.heap.size 1 A' n' ys ∧ Reads w1 w1.heap.size 1 A2 n2 zs ∧ Below B a w1) (hb : Below w1.heap.size w1 w2) :
    Reads w2 w2.heap.size 1 A n xs ∧ Reads w2 w2.heap.size 1 A' n' ys ∧ Reads w2 w2.heap.size 1 A2 n2 zs ∧ Below B a w2 :=
  ⟨h.1.later hb, h.2.1.later hb, h.2.2.1.later hb, blater h.2.2.2 hB hb⟩

set_option maxRecDepth 100000 in
set_option maxHeartbeats 4000000 in
theorem hashOneLabel_walk (a0 : ByteArray) (a1 : Option Addr) (len1 cap1 : Nat) (z1 : List Int) (a2 a3 : Int) (w : World) (w0 : a0.size ≤ maxLen) (w1 : IsRow .i64 w a1 len1 cap1 z1) (w2 : (Lit.int .i64 a2).wf = true) (w3 : (Lit.int .u8 a3).wf = true) :
    Calls Try.prog 7 #[.string a0, .slice a1 len1 cap1, .int .i64 a2, .int .u8 a3] w fun e w' => e = .returned (.bool true) ∧ Below w.heap.size w w' := by
  obtain ⟨l, hl, hc, hm, hr, _⟩ := isRow_ints w1
  have hb2 := wf_bd w2
  obtain ⟨p, rfl⟩ := wf_u8 w3
  clear w1 w2 w3
  obtain ⟨m, hm2⟩ : ∃ m, (l.take 6).length = m := ⟨_, rfl⟩
  have hm6 : m ≤ 6 := by rw [← hm2, List.length_take]; omega
  have hc1 := ints_reads a1 len1 cap1 6 l m hl hc hm (by omega) hm2
  have HML := Lib.hid hm2
  clear hl hc hm hm2
  have hcv := fun w s => run_bytes_of_string (P := Try.prog) w 9 30 5 s Try.underlying9 Try.underlying30 Try.underlying5
  go_enter Try.func7, Try.ntmps7
  go_wp2_with fail
  refine (hc1 _ hr).mono ?_
  rintro e w2 ⟨A2, c2, rfl, hcc, hown, hbb⟩
  have hr2 := Reads.of_own hown
  have hw2 := hbb.size
  clear hc1 hr hown
  go_wp2_with fail
  refine (short_any a0 29 w0 (by omega) _).mono ?_
  rintro e w' ⟨⟨t, rfl, ht, _⟩, rfl⟩
  obtain ⟨L, hL⟩ : ∃ L, t.data.toList ++ [120] = L := ⟨_, rfl⟩
  have htl := H.str_len t
  have hLL : L.length = t.size + 1 := by rw [← hL, List.length_append, htl]; rfl
  have hLt : L.take 30 = L := List.take_of_length_le (by omega)
  have hab := arN_bd a2 ((t.size : Int) + 1) (by omega)
  obtain ⟨kn, hkn⟩ : ∃ kn : Nat, arN a2 ((t.size : Int) + 1) = (kn : Int) := ⟨(arN a2 ((t.size : Int) + 1)).toNat, by omega⟩
  have hknlt : kn < t.size + 1 := by omega
  have hcr := around_nat a2 ((t.size : Int) + 1) kn hb2.1 hb2.2 (by omega) (by omega) hkn
  obtain ⟨x, hx⟩ : ∃ x, L[kn]? = some x := ⟨L[kn]'(by omega), List.getElem?_eq_getElem (by omega)⟩
  obtain ⟨r, hrr⟩ : ∃ r, x ^^^ p = r := ⟨_, rfl⟩
  have hx8 := xor8 x p
  rw [hrr] at hx8
  obtain ⟨L', hL'⟩ : ∃ L', L.set kn r = L' := ⟨_, rfl⟩
  have hLL' : L'.length = t.size + 1 := by rw [← hL', List.length_set]; exact hLL
  obtain ⟨sa, hsa⟩ : ∃ sa : ByteArray, ⟨L.toArray⟩ = sa := ⟨_, rfl⟩
  obtain ⟨sb, hsb⟩ : ∃ sb : ByteArray, ⟨L'.toArray⟩ = sb := ⟨_, rfl⟩
  have hsal : sa.data.toList = L := by rw [← hsa]
  have hsbl : sb.data.toList = L' := by rw [← hsb]
  have hsaz : sa.size ≤ 1000000 := by rw [← H.str_len, hsal]; omega
  have hsbz : sb.size ≤ 1000000 := by rw [← H.str_len, hsbl]; omega
  obtain ⟨x1, hx1⟩ : ∃ y, H.sum sa.data.toList (wv (l.take 6)) = y := ⟨_, rfl⟩
  obtain ⟨x2, hx2⟩ : ∃ y, H.sum sb.data.toList (wv (l.take 6)) = y := ⟨_, rfl⟩
  obtain ⟨b, hbd⟩ : ∃ b, b = decide (L = L') := ⟨_, rfl⟩
  have hq : ((x1.toNat : Int) == (x2.toNat : Int)) = b := by
    rw [hbd, ← hx1, ← hx2, hsal, hsbl]
    exact beq_form (H.sum_label _ (g := kn / 8) (by rw [hLL, hLL']) (fun j hj => by rw [← hL', List.getElem?_set_ne (fun e => hj (by rw [e]))]))
  have hp0 : ((p.toNat : Int) == 0) = b := by
    rw [hbd, ← hL', ← hrr]
    by_cases hz : p = 0
    · rw [hz, decide_eq_true]
      · rfl
      · apply List.ext_getElem?
        intro i
        by_cases hi : i = kn
        · subst hi; rw [List.getElem?_set_self (by omega), hx]; simp
        · rw [List.getElem?_set_ne (fun e => hi e.symm)]
    · rw [decide_eq_false]
      · rw [beq_eq_false_iff_ne]; intro e; exact hz (UInt8.toNat_inj.1 (by rw [show (0 : UInt8).toNat = 0 from rfl]; omega))
      · intro e
        have := congrArg (fun z => z[kn]?) e
        simp only [hx, List.getElem?_set_self (show kn < L.length by omega), Option.some.injEq] at this
        apply hz
        have h2 : x ^^^ x = x ^^^ (x ^^^ p) := by rw [← this]
        rw [← UInt8.xor_assoc, UInt8.xor_self, UInt8.zero_xor] at h2
        exact h2.symm
  have hcA := fun cap => conv_back w2.heap.size (t.size + 1) cap L hLL sa hsa
  have HX1 := Lib.hid hx1
  have HX2 := Lib.hid hx2
  have HL := Lib.hid hL
  have HLL := Lib.hid hLL
  have HLL' := Lib.hid hLL'
  have HLT := Lib.hid hLt
  have HXK := Lib.hid hx
  have HL' := Lib.hid hL'
  have HSB := Lib.hid hsb
  clear hx1 hx2 hL hLL hLL' hLt hx hL' hsa hsb hsal hsbl hbd hab hkn hrr htl hb2
  go_wp2_with fail
  clear hcv
  have hcp1 := grownCap_ge w2 (t.size + 1) 0 5
  have hcp2 := grownCap_le_maxLen w2 (t.size + 1) 0 5 (by unfold maxLen; omega)
  unfold maxLen at hcp2
  generalize grownCap w2 (t.size + 1) 0 5 = gc at hcp1 hcp2 ⊢
  have hrA := reads_bytesRow' w2 (t ++ ⟨#[120]⟩) gc 5 ((bytesRow (t ++ ⟨#[120]⟩) gc).size, (bytesRow (t ++ ⟨#[120]⟩) gc).size + 1) (t.size + 1) L (by simp; rfl) (by rw [← HL.out]; simp)
  have hB3 : Below w.heap.size w (w2.alloc (.cells (bytesRow (t ++ ⟨#[120]⟩) gc) 5 ((bytesRow (t ++ ⟨#[120]⟩) gc).size, (bytesRow (t ++ ⟨#[120]⟩) gc).size + 1))).drew := (hbb.alloc hw2 _).drew
  have hr2' := (hr2.alloc (Nat.le_refl _) (.cells (bytesRow (t ++ ⟨#[120]⟩) gc) 5 ((bytesRow (t ++ ⟨#[120]⟩) gc).size, (bytesRow (t ++ ⟨#[120]⟩) gc).size + 1))).drew
  obtain ⟨W3, hW3⟩ : ∃ W3, (w2.alloc (.cells (bytesRow (t ++ ⟨#[120]⟩) gc) 5 ((bytesRow (t ++ ⟨#[120]⟩) gc).size, (bytesRow (t ++ ⟨#[120]⟩) gc).size + 1))).drew = W3 := ⟨_, rfl⟩
  have hw23 : W3.heap.size = w2.heap.size + 1 := by rw [← hW3]; exact World.size_alloc _ _
  have hrA3 : Reads W3 W3.heap.size 1 (some ⟨w2.heap.size, 0, none⟩) (t.size + 1) (bv L) := by rw [hw23, ← hW3]; exact hrA.drew
  rw [hW3] at hB3 hr2' ⊢
  have hrI3 : Reads W3 W3.heap.size 1 A2 m (iv (l.take 6)) := hr2'.more (by omega)
  clear hrA hW3 hr2 hr2' hbb
  have hc4 := few_reads _ (t.size + 1) gc 30 L (t.size + 1) HLL.out hcp1 hcp2 (by omega) (by rw [HLT.out]; exact HLL.out) W3 hrA3
  rw [HLT.out] at hc4
  refine hc4.mono ?_
  rintro e w4 ⟨A4, c4, rfl, hcc4, hown4, hbb⟩
  clear hc4
  have hB4 := blater hB3 (Nat.le_refl _) hbb
  have hrA4 := hrA3.below hbb
  have hrI4 := hrI3.below hbb
  have hw4 := hbb.size
  obtain ⟨g4, rfl, hg4, hg4'⟩ := own_head hown4
  clear hB3 hbb hrA3 hrI3
  have hcell4 : w4.cell? ⟨g4, kn, none⟩ = some (.int .u8 (x.toNat : Int)) := (hown4.cellAt kn (by omega)).trans (bv_getElem _ _ _ HXK.out)
  have hfr4 := hown4.frozenAt kn
  have hst := (hown4.stored kn (.int .u8 (r.toNat : Int))).1
  rw [bv_set, HL'.out] at hst
  have hkn0 : (0 : Int) ≤ (kn : Int) := by omega
  have hkn1 : (kn : Int) < (t.size : Int) + 1 := by omega
  go_wp2_with fail
  refine (hcr _).mono ?_
  rintro e w' ⟨rfl, rfl⟩
  go_wp2_with fail
  have hB5 := hB4.setCell (p := ⟨g4, kn, none⟩) (by show w.heap.size ≤ g4; omega) (.int .u8 (r.toNat : Int))
  have hrA5 := (hrA4.setCell (p := ⟨g4, kn, none⟩) hg4 (.int .u8 (r.toNat : Int))).more (B' := (w4.setCell ⟨g4, kn, none⟩ (.int .u8 (r.toNat : Int))).heap.size) (by simpa [World.setCell] using hw4)
  have hrI5 := (hrI4.setCell (p := ⟨g4, kn, none⟩) hg4 (.int .u8 (r.toNat : Int))).more (B' := (w4.setCell ⟨g4, kn, none⟩ (.int .u8 (r.toNat : Int))).heap.size) (by simpa [World.setCell] using hw4)
  have hrB5 := Reads.of_own hst
  obtain ⟨W5, hW5⟩ : ∃ W5, w4.setCell ⟨g4, kn, none⟩ (.int .u8 (r.toNat : Int)) = W5 := ⟨_, rfl⟩
  rw [hW5] at hB5 hrA5 hrI5 hrB5 ⊢
  have hcB := fun cap => conv_back g4 (t.size + 1) cap L' HLL'.out sb HSB.out
  have hS0 := Lib.hid (show Reads W5.drew W5.drew.heap.size 1 (some ⟨w2.heap.size, 0, none⟩) (t.size + 1) (bv L) ∧ Reads W5.drew W5.drew.heap.size 1 (some ⟨g4, 0, none⟩) (t.size + 1) (bv L') ∧ Reads W5.drew W5.drew.heap.size 1 A2 m (iv (l.take 6)) ∧ Below w.heap.size w W5.drew from ⟨hrA5.drew, hrB5.drew, hrI5.drew, hB5.drew⟩)
  clear hW5 hB5 hrA5 hrI5 hrB5 hst hcell4 hfr4 hown4 hrA4 hrI4 hB4 hg4 hg4' hcr hcp1 hcp2 hcc hcc4 hw2 hw4 hw23
  go_region_held3 (fun w' => Reads w' w'.heap.size 1 (some ⟨w2.heap.size, 0, none⟩) (t.size + 1) (bv L) ∧ Reads w' w'.heap.size 1 (some ⟨g4, 0, none⟩) (t.size + 1) (bv L') ∧ Reads w' w'.heap.size 1 A2 m (iv (l.take 6)) ∧ Below w.heap.size w w') (first | exact hS0.out | exact keep4 (Nat.le_refl _) (by assumption) (by assumption))
      (first
        | (go_at_call_of 13 sa; refine (sum_val x1 sa hsaz _ _ _ _ HML.out (by omega) HX1.out _ ?_).mono ?_; exact (And.left (And.right (And.right (by assumption)))); rintro e w' ⟨rfl, hb'⟩)
        | (go_at_call_of 13 sb; refine (sum_val x2 sb hsbz _ _ _ _ HML.out (by omega) HX2.out _ ?_).mono ?_; exact (And.left (And.right (And.right (by assumption)))); rintro e w' ⟨rfl, hb'⟩)
        | (go_at_call 15; refine (lives_any _).mono ?_; rintro e w' ⟨rfl, hb'⟩))
  have hfin := And.right (And.right (And.right (by assumption : Reads _ _ 1 (some ⟨w2.heap.size, 0, none⟩) (t.size + 1) (bv L) ∧ Reads _ _ 1 (some ⟨g4, 0, none⟩) (t.size + 1) (bv L') ∧ Reads _ _ 1 A2 m (iv (l.take 6)) ∧ Below w.heap.size w _)))
  go_wp2
  go_ret
  exact ⟨rfl, hfin⟩
end Go.Proofs.Ytfdcfbpflgbjgaa
