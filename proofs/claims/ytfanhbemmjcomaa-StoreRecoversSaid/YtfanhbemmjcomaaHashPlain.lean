/- Plain facts on the hash: the mixing step is injective in each argument; the words of a byte list; sums of words. No program in sight. -/
namespace Go.Proofs.Ytfanhbemmjcomaa
namespace H

def C : UInt64 := 0x9E3779B97F4A7C15
def mix (s w : UInt64) : UInt64 := ((s ^^^ w) * C) ^^^ (((s ^^^ w) * C) >>> 32)

theorem xs_inv (x : UInt64) : (x ^^^ x >>> 32) ^^^ ((x ^^^ x >>> 32) >>> 32) = x := by
  apply UInt64.toBitVec_inj.1
  simp only [UInt64.toBitVec_xor, UInt64.toBitVec_shiftRight]
  ext i hi
  simp
  have : x.toBitVec.getLsbD (32 + (32 + i)) = false := BitVec.getLsbD_of_ge _ _ (by omega)
  rw [this]
  cases x.toBitVec.getLsbD (32 + i) <;> simp

theorem xs_inj {x y : UInt64} (h : x ^^^ x >>> 32 = y ^^^ y >>> 32) : x = y := by
  rw [← xs_inv x, h, xs_inv y]

theorem mul_inv (x : UInt64) : x * C * 0xF1DE83E19937733D = x := by
  rw [UInt64.mul_assoc, show C * 0xF1DE83E19937733D = 1 from by decide, UInt64.mul_one]
theorem mul_inj {x y : UInt64} (h : x * C = y * C) : x = y := by
  rw [← mul_inv x, h, mul_inv y]
theorem mix_r {s v w : UInt64} (h : mix s v = mix s w) : v = w := by
  have := mul_inj (xs_inj h)
  have h2 : s ^^^ (s ^^^ v) = s ^^^ (s ^^^ w) := by rw [this]
  rwa [← UInt64.xor_assoc, ← UInt64.xor_assoc, UInt64.xor_self, UInt64.zero_xor, UInt64.zero_xor] at h2
theorem mix_l {s t w : UInt64} (h : mix s w = mix t w) : s = t := by
  have := mul_inj (xs_inj h)
  have h2 : (s ^^^ w) ^^^ w = (t ^^^ w) ^^^ w := by rw [this]
  rwa [UInt64.xor_assoc, UInt64.xor_assoc, UInt64.xor_self, UInt64.xor_zero, UInt64.xor_zero] at h2
theorem mix_r_iff {s v w : UInt64} : mix s v = mix s w ↔ v = w := ⟨mix_r, fun h => by rw [h]⟩
theorem mix_l_iff {s t w : UInt64} : mix s w = mix t w ↔ s = t := ⟨mix_l, fun h => by rw [h]⟩

def absorb (s : UInt64) (l : List UInt64) : UInt64 := l.foldl mix s
theorem absorb_nil (s : UInt64) : absorb s [] = s := rfl
theorem absorb_cons (s a : UInt64) (l : List UInt64) : absorb s (a :: l) = absorb (mix s a) l := rfl
theorem absorb_snoc (s a : UInt64) (l : List UInt64) : absorb s (l ++ [a]) = mix (absorb s l) a := by simp [absorb]
theorem absorb_inj : ∀ (l : List UInt64) {s t : UInt64}, absorb s l = absorb t l ↔ s = t
  | [], _, _ => Iff.rfl
  | _ :: l, _, _ => (absorb_inj l).trans mix_l_iff

/-- Two lists that agree outside one place: equal sums just where they are equal. -/
theorem absorb_one : ∀ (l m : List UInt64) (g : Nat) (s : UInt64), l.length = m.length → (∀ j, j ≠ g → l[j]? = m[j]?) → (absorb s l = absorb s m ↔ l = m)
  | [], [], _, _, _, _ => by simp
  | [], _ :: _, _, _, h, _ => by simp at h
  | _ :: _, [], _, _, h, _ => by simp at h
  | a :: l, b :: m, 0, s, hl, h => by
    have hlm : l = m := by
      apply List.ext_getElem?
      intro i
      have := h (i + 1) (by omega)
      simpa using this
    subst hlm
    rw [absorb_cons, absorb_cons, absorb_inj, mix_r_iff]
    simp
  | a :: l, b :: m, g + 1, s, hl, h => by
    have hab : a = b := by
      have := h 0 (by omega)
      simpa using this
    subst hab
    rw [absorb_cons, absorb_cons, absorb_one l m g _ (by simpa using hl) (fun j hj => by have := h (j + 1) (by omega); simpa using this)]
    simp

def leN : List UInt8 → Nat
  | [] => 0
  | b :: bs => b.toNat + 256 * leN bs
theorem leN_lt : ∀ l : List UInt8, leN l < 256 ^ l.length
  | [] => by simp [leN]
  | b :: bs => by
    have := leN_lt bs
    have hb := b.toNat_lt
    simp only [leN, List.length_cons, Nat.pow_succ]
    omega
theorem leN_inj : ∀ {l m : List UInt8}, l.length = m.length → leN l = leN m → l = m
  | [], [], _, _ => rfl
  | [], _ :: _, h, _ => by simp at h
  | _ :: _, [], h, _ => by simp at h
  | a :: l, b :: m, hl, h => by
    have ha := a.toNat_lt
    have hb := b.toNat_lt
    simp only [leN] at h
    have h1 : a.toNat = b.toNat := by omega
    have h2 : leN l = leN m := by omega
    rw [UInt8.toNat_inj.1 h1, leN_inj (by simpa using hl) h2]
theorem leN_snoc0 : ∀ l : List UInt8, leN (l ++ [0]) = leN l
  | [] => rfl
  | b :: bs => by simp only [List.cons_append, leN, leN_snoc0 bs]
theorem leN_snoc : ∀ (l : List UInt8) (c : UInt8), leN (l ++ [c]) = leN l + c.toNat * 256 ^ l.length
  | [], c => by simp [leN]
  | b :: bs, c => by
    simp only [List.cons_append, leN, leN_snoc bs, List.length_cons, Nat.pow_succ, Nat.mul_add]
    have : 256 * (c.toNat * 256 ^ bs.length) = c.toNat * (256 ^ bs.length * 256) := by rw [← Nat.mul_assoc, Nat.mul_comm 256, Nat.mul_assoc, Nat.mul_comm 256]
    omega

/-- Group k of a byte list: at most 8 bytes. -/
def grp (l : List UInt8) (k : Nat) : List UInt8 := (l.drop (8 * k)).take 8
theorem grp_len (l : List UInt8) (k : Nat) : (grp l k).length = min 8 (l.length - 8 * k) := by simp [grp]
theorem grp_lt (l : List UInt8) (k : Nat) : leN (grp l k) < 18446744073709551616 := by
  have h := leN_lt (grp l k)
  have h2 : (grp l k).length ≤ 8 := by rw [grp_len]; omega
  have h3 : 256 ^ (grp l k).length ≤ 256 ^ 8 := Nat.pow_le_pow_right (by omega) h2
  have : (256 : Nat) ^ 8 = 18446744073709551616 := by decide
  omega
def word (l : List UInt8) (k : Nat) : UInt64 := UInt64.ofNat (leN (grp l k))
/-- The word of group k when j of its bytes have been taken. -/
def pw (l : List UInt8) (k j : Nat) : UInt64 := UInt64.ofNat (leN ((grp l k).take j))
def nw (l : List UInt8) : Nat := (l.length + 7) / 8
def words (l : List UInt8) : List UInt64 := (List.range (nw l)).map (word l)
theorem words_len (l : List UInt8) : (words l).length = nw l := by simp [words]
theorem words_at (l : List UInt8) (k : Nat) : (words l)[k]? = if k < nw l then some (word l k) else none := by
  simp only [words, List.getElem?_map]
  split
  · rw [List.getElem?_range (by assumption)]; rfl
  · rw [List.getElem?_eq_none (by simp; omega)]; rfl
theorem word_inj {l m : List UInt8} {k : Nat} (h : l.length = m.length) (e : word l k = word m k) : grp l k = grp m k := by
  have e2 := congrArg UInt64.toNat e
  unfold word at e2
  rw [UInt64.toNat_ofNat_of_lt' (by exact grp_lt l k), UInt64.toNat_ofNat_of_lt' (by exact grp_lt m k)] at e2
  exact leN_inj (by rw [grp_len, grp_len, h]) e2
theorem grp_at (l : List UInt8) (i : Nat) : l[i]? = (grp l (i / 8))[i % 8]? := by
  rw [grp, List.getElem?_take_of_lt (by omega), List.getElem?_drop]
  congr 1; omega
theorem words_inj {l m : List UInt8} (h : l.length = m.length) (e : words l = words m) : l = m := by
  apply List.ext_getElem?
  intro i
  by_cases hi : i < l.length
  · have hk : i / 8 < nw l := by unfold nw; omega
    have hk' : i / 8 < nw m := by unfold nw; omega
    have := congrArg (fun z => z[i / 8]?) e
    simp only [words_at, if_pos hk, if_pos hk', Option.some.injEq] at this
    rw [grp_at l, grp_at m, word_inj h this]
  · rw [List.getElem?_eq_none (by omega), List.getElem?_eq_none (by omega)]
/-- Byte lists that agree outside group g have words that agree outside place g. -/
theorem words_one {l m : List UInt8} {g : Nat} (h : l.length = m.length) (e : ∀ i, i / 8 ≠ g → l[i]? = m[i]?) (j : Nat) (hj : j ≠ g) : (words l)[j]? = (words m)[j]? := by
  have hn : nw l = nw m := by unfold nw; rw [h]
  have hg : grp l j = grp m j := by
    apply List.ext_getElem?
    intro i
    by_cases hi : i < 8
    · rw [grp, grp, List.getElem?_take_of_lt hi, List.getElem?_take_of_lt hi, List.getElem?_drop, List.getElem?_drop]
      exact e _ (by omega)
    · rw [List.getElem?_eq_none (by rw [grp_len]; omega), List.getElem?_eq_none (by rw [grp_len]; omega)]
  rw [words_at, words_at, hn]
  simp only [word, hg]
theorem words_snoc0 {l : List UInt8} (h : l.length % 8 ≠ 0) : words (l ++ [0]) = words l := by
  have hn : nw (l ++ [0]) = nw l := by unfold nw; simp; omega
  apply List.ext_getElem?
  intro k
  rw [words_at, words_at, hn]
  split
  · rename_i hk
    have : leN (grp (l ++ [0]) k) = leN (grp l k) := by
      by_cases h8 : 8 * k + 8 ≤ l.length
      · have : grp (l ++ [0]) k = grp l k := by
          unfold grp
          rw [List.drop_append_of_le_length (by omega), List.take_append_of_le_length (by simp; omega)]
        rw [this]
      · have h1 : grp (l ++ [0]) k = grp l k ++ [0] := by
          unfold nw at hk
          unfold grp
          rw [List.drop_append_of_le_length (by omega), List.take_of_length_le (by simp; omega), List.take_of_length_le (by simp; omega)]
        rw [h1, leN_snoc0]
    simp only [word, this]
  · rfl

def sum (label : List UInt8) (l : List UInt64) : UInt64 :=
  mix (absorb (mix (mix (absorb 0 (words label)) (UInt64.ofNat label.length)) (UInt64.ofNat l.length)) l) 0
def bytes (label b : List UInt8) : UInt64 := sum label (words b ++ [UInt64.ofNat b.length])

theorem sum_one (label : List UInt8) {l m : List UInt64} {g : Nat} (hl : l.length = m.length) (h : ∀ j, j ≠ g → l[j]? = m[j]?) : sum label l = sum label m ↔ l = m := by
  unfold sum
  rw [mix_l_iff, hl, absorb_one l m g _ hl h]
theorem sum_label {a b : List UInt8} (l : List UInt64) {g : Nat} (hl : a.length = b.length) (h : ∀ j, j / 8 ≠ g → a[j]? = b[j]?) : sum a l = sum b l ↔ a = b := by
  unfold sum
  rw [mix_l_iff, absorb_inj, mix_l_iff, hl, mix_l_iff, absorb_one _ _ g 0 (by rw [words_len, words_len]; unfold nw; rw [hl]) (words_one hl h)]
  exact ⟨words_inj hl, fun h => by rw [h]⟩
theorem bytes_one (label : List UInt8) {a b : List UInt8} {g : Nat} (hl : a.length = b.length) (h : ∀ j, j / 8 ≠ g → a[j]? = b[j]?) : bytes label a = bytes label b ↔ a = b := by
  have hw : (words a).length = (words b).length := by rw [words_len, words_len]; unfold nw; rw [hl]
  unfold bytes
  rw [sum_one label (g := g) (by simp [hw]) (fun j hj => by
    by_cases hj2 : j < (words a).length
    · rw [List.getElem?_append_left hj2, List.getElem?_append_left (by omega), words_one hl h j hj]
    · rw [List.getElem?_append_right (by omega), List.getElem?_append_right (by omega), hw, hl])]
  rw [hl]
  constructor
  · intro e
    exact words_inj hl (List.append_cancel_right e)
  · intro e; rw [e]
theorem bytes_longer (label : List UInt8) {c : List UInt8} (h : c.length % 8 ≠ 0) (hs : c.length < 1000) : bytes label (c ++ [0]) ≠ bytes label c := by
  unfold bytes
  rw [words_snoc0 h]
  intro e
  rw [sum_one label (g := (words c).length) (by simp) (fun j hj => by
    by_cases hj2 : j < (words c).length
    · rw [List.getElem?_append_left hj2, List.getElem?_append_left hj2]
    · rw [List.getElem?_eq_none (by simp; omega), List.getElem?_eq_none (by simp; omega)])] at e
  have := List.append_cancel_left e
  simp only [List.length_append, List.length_cons, List.length_nil, List.cons.injEq, and_true] at this
  have := congrArg UInt64.toNat this
  rw [UInt64.toNat_ofNat_of_lt' (by simp only [UInt64.size]; omega), UInt64.toNat_ofNat_of_lt' (by simp only [UInt64.size]; omega)] at this
  omega

def pairLabel : List UInt8 := [112, 97, 105, 114]
def pair (a b : UInt64) : UInt64 := sum pairLabel [a, b]
theorem pair_l {a b c : UInt64} : pair a c = pair b c ↔ a = b := by
  unfold pair
  rw [sum_one pairLabel (l := [a, c]) (m := [b, c]) (g := 0) rfl (fun j hj => by match j, hj with | j + 1, _ => simp)]
  simp
theorem pair_r {a b c : UInt64} : pair c a = pair c b ↔ a = b := by
  unfold pair
  rw [sum_one pairLabel (l := [c, a]) (m := [c, b]) (g := 1) rfl (fun j hj => by match j, hj with | 0, _ => simp | j + 2, _ => simp)]
  simp
theorem live1 : (sum [97] [5] = sum [97] [6]) = False := by
  simp only [eq_iff_iff, iff_false]; decide
theorem live2 : bytes [97] [1, 2] = sum [97] [513, 2] := by decide
end H
end Go.Proofs.Ytfanhbemmjcomaa
