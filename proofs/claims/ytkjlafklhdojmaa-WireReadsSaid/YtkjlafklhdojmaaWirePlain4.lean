/- Plain facts: values read back; a cut encoding reads short. No program in sight. -/
import Derived.Test.YtkjlafklhdojmaaWireEnc
namespace Go.Proofs.Ytkjlafklhdojmaa
set_option linter.unusedVariables false
namespace V
theorem read_enc {x : Vl} (h : VOk 10 x) (rest : List UInt8) : read x.kind 10 (encV x ++ rest, 0) = (x, (rest, 0)) := by
  obtain ⟨kind, u, n, b, l⟩ := x
  unfold read encV
  rcases h with ⟨h1, h2, h3, h4⟩ | ⟨h1, h2, h3, h4, h5⟩ | ⟨h1, h2, h3, h4, h5⟩ | ⟨h1, h2, h3, h4, h5, h6⟩
  · have h1 : kind = 0 := h1
    have h2 : n = 0 := h2
    have h3 : b = [] := h3
    have h4 : l = [] := h4
    subst h1 h2 h3 h4
    simp only [if_true]
    rw [rd_enc]
  · have h1 : kind = 1 := h1
    have h2 : u = 0 := h2
    have h4 : b = [] := h4
    have h5 : l = [] := h5
    subst h1 h2 h4 h5
    show ((⟨1, 0, (rdInt (enc (zz n) ++ rest, 0)).1, [], []⟩ : Vl), (rdInt (enc (zz n) ++ rest, 0)).2) = _
    rw [rdInt_enc h3.1 h3.2]
  · have h1 : kind = 2 := h1
    have h2 : u = 0 := h2
    have h3 : n = 0 := h3
    have h5 : l = [] := h5
    have h4 : b.length ≤ 10 := h4
    subst h1 h2 h3 h5
    show ((⟨2, 0, 0, (rdList next 10 (enc (UInt64.ofNat b.length) ++ b ++ rest, 0)).1, []⟩ : Vl), (rdList next 10 (enc (UInt64.ofNat b.length) ++ b ++ rest, 0)).2) = _
    rw [rdBytes_enc 10 b rest (by omega) (by omega)]
  · have h1 : kind = 3 := h1
    have h2 : u = 0 := h2
    have h3 : n = 0 := h3
    have h4 : b = [] := h4
    have h5 : l.length ≤ 10 := h5
    subst h1 h2 h3 h4
    show ((⟨3, 0, 0, [], (rdList rdInt 10 (enc (UInt64.ofNat l.length) ++ encI l ++ rest, 0)).1⟩ : Vl), (rdList rdInt 10 (enc (UInt64.ofNat l.length) ++ encI l ++ rest, 0)).2) = _
    have := rdInts_enc 10 l rest h6 (by omega) (by omega)
    unfold encI
    rw [this]
theorem rd_short : ∀ (f i : Nat) (acc : UInt64) (m : Nat) (p q : List UInt8), i + f = 9 → q ≠ [] → encF f m = p ++ q → rdF i acc p = (0, [], 7)
  | 0, i, acc, m, p, q, hif, hq, h => by
    cases p with
    | nil => rfl
    | cons c p =>
      have := congrArg List.length h
      have hq' : q.length ≠ 0 := fun e => hq (List.eq_nil_of_length_eq_zero e)
      simp only [encF, List.length_cons, List.length_nil, List.length_append] at this; omega
  | f + 1, i, acc, m, p, q, hif, hq, h => by
    have hq' : q.length ≠ 0 := fun e => hq (List.eq_nil_of_length_eq_zero e)
    cases p with
    | nil => rfl
    | cons c p =>
      by_cases hs : m < 128
      · rw [encF_small hs] at h
        have := congrArg List.length h
        simp only [List.length_cons, List.length_nil, List.length_append] at this; omega
      · rw [encF_big (by omega)] at h
        simp only [List.cons_append, List.cons.injEq] at h
        obtain ⟨hc, h⟩ := h
        have hb : c.toNat = m % 128 + 128 := by rw [← hc]; exact byte_nat _ (by omega)
        unfold rdF
        rw [if_neg (by omega), if_neg (by omega)]
        exact rd_short f (i + 1) _ (m / 128) p q (by omega) hq h
theorem rdUint_short {n : UInt64} {p q : List UInt8} (hq : q ≠ []) (h : enc n = p ++ q) : rdUint (p, 0) = (0, ([], 7)) := by
  unfold rdUint
  rw [if_pos rfl]
  exact rd_short 9 0 0 n.toNat p q rfl hq h
theorem split_pre {a b p q : List UInt8} (h : a ++ b = p ++ q) : (∃ t, p = a ++ t ∧ b = t ++ q) ∨ ∃ t, t ≠ [] ∧ a = p ++ t := by
  rcases List.append_eq_append_iff.1 h with ⟨t, h1, h2⟩ | ⟨t, h1, h2⟩
  · exact .inl ⟨t, h1, h2⟩
  · cases t with
    | nil => exact .inl ⟨[], by simpa using h1.symm, by simpa using h2.symm⟩
    | cons c t => exact .inr ⟨c :: t, by simp, h1⟩
theorem rdList_of_err {α : Type} (f : St → α × St) (most : Int) (s : St) (h : (rdUint s).2.2 ≠ 0) (hv : (rdUint s).1 = 0) : (rdList f most s).2 = (rdUint s).2 := by
  have h1 : lim s most = (rdUint s).2 := by
    unfold lim
    split
    · unfold fail; rw [if_neg h]
    · rfl
  unfold rdList
  rw [h1, rdN_stop f _ h, if_neg h]
theorem rdN_bytes_short : ∀ (b p q : List UInt8), q ≠ [] → b = p ++ q → (rdN next b.length (p, 0)).2.2 = 7
  | [], p, q, hq, h => by
    have := List.append_eq_nil_iff.1 h.symm
    exact absurd this.2 hq
  | c :: b, p, q, hq, h => by
    show (rdN next (b.length + 1) (p, 0)).2.2 = 7
    rw [rdN_go next _ rfl]
    cases p with
    | nil =>
      show (rdN next b.length ([], 7)).2.2 = 7
      rw [rdN_stop next _ (by show (7 : Int) ≠ 0; decide)]
    | cons d p =>
      simp only [List.cons_append, List.cons.injEq] at h
      exact rdN_bytes_short b p q hq h.2
theorem rdN_ints_short : ∀ (l : List Int) (p q : List UInt8), (∀ n ∈ l, inr n) → q ≠ [] → encI l = p ++ q → (rdN rdInt l.length (p, 0)).2.2 = 7
  | [], p, q, _, hq, h => by
    have := List.append_eq_nil_iff.1 (show p ++ q = [] from h.symm)
    exact absurd this.2 hq
  | n :: l, p, q, hl, hq, h => by
    show (rdN rdInt (l.length + 1) (p, 0)).2.2 = 7
    rw [rdN_go rdInt _ rfl]
    have hn := hl n (List.mem_cons_self ..)
    have h' : enc (zz n) ++ encI l = p ++ q := by rw [← h]; simp [encI]
    rcases split_pre h' with ⟨t, h1, h2⟩ | ⟨t, h1, h2⟩
    · subst h1
      rw [rdInt_enc hn.1 hn.2]
      exact rdN_ints_short l t q (fun m hm => hl m (List.mem_cons_of_mem _ hm)) hq h2
    · have e : rdInt (p, 0) = (uz 0, ([], 7)) := by unfold rdInt; rw [rdUint_short h1 h2]
      rw [e]
      show (rdN rdInt l.length ([], 7)).2.2 = 7
      rw [rdN_stop rdInt _ (by show (7 : Int) ≠ 0; decide)]
theorem rdList_short {α : Type} (f : St → α × St) (k : Nat) (hk : k ≤ 10) (body p q : List UInt8) (hq : q ≠ []) (h : enc (UInt64.ofNat k) ++ body = p ++ q) (hb : ∀ t, body = t ++ q → (rdN f k (t, 0)).2.2 = 7) : (rdList f 10 (p, 0)).2.2 = 7 := by
  rcases split_pre h with ⟨t, h1, h2⟩ | ⟨t, h1, h2⟩
  · subst h1
    have hu : rdUint (enc (UInt64.ofNat k) ++ t, 0) = (UInt64.ofNat k, (t, 0)) := rd_enc _ _
    have hk2 : k < UInt64.size := by show k < 18446744073709551616; omega
    have hlim : lim (enc (UInt64.ofNat k) ++ t, 0) 10 = (t, 0) := by
      unfold lim
      rw [hu]
      show (if (10 : Int) < 0 ∨ (10 : Int) < ((UInt64.ofNat k).toNat : Int) then _ else _) = _
      rw [UInt64.toNat_ofNat_of_lt' hk2, if_neg (by omega)]
    have h3 := hb t h2
    unfold rdList
    rw [hlim, hu]
    show (if (rdN f (UInt64.ofNat k).toNat (t, 0)).2.2 = 0 then rdN f (UInt64.ofNat k).toNat (t, 0) else ([], (rdN f (UInt64.ofNat k).toNat (t, 0)).2)).2.2 = 7
    rw [UInt64.toNat_ofNat_of_lt' hk2, if_neg (by rw [h3]; decide)]
    exact h3
  · have hu := rdUint_short h1 h2
    rw [rdList_of_err f 10 (p, 0) (by rw [hu]; show (7 : Int) ≠ 0; decide) (by rw [hu]), hu]
theorem read_short {x : Vl} (h : VOk 10 x) {p q : List UInt8} (hq : q ≠ []) (he : encV x = p ++ q) : (read x.kind 10 (p, 0)).2.2 = 7 := by
  obtain ⟨kind, u, n, b, l⟩ := x
  unfold encV at he
  unfold read
  rcases h with ⟨h1, h2, h3, h4⟩ | ⟨h1, h2, h3, h4, h5⟩ | ⟨h1, h2, h3, h4, h5⟩ | ⟨h1, h2, h3, h4, h5, h6⟩
  · have h1 : kind = 0 := h1
    subst h1
    have he : enc u = p ++ q := he
    show (rdUint (p, 0)).2.2 = 7
    rw [rdUint_short hq he]
  · have h1 : kind = 1 := h1
    subst h1
    have he : enc (zz n) = p ++ q := he
    show (rdInt (p, 0)).2.2 = 7
    unfold rdInt
    rw [rdUint_short hq he]
  · have h1 : kind = 2 := h1
    subst h1
    have h4 : b.length ≤ 10 := h4
    have he : enc (UInt64.ofNat b.length) ++ b = p ++ q := he
    show (rdList next 10 (p, 0)).2.2 = 7
    exact rdList_short next b.length h4 b p q hq he (fun t ht => rdN_bytes_short b t q hq ht)
  · have h1 : kind = 3 := h1
    subst h1
    have h5 : l.length ≤ 10 := h5
    have he : enc (UInt64.ofNat l.length) ++ encI l = p ++ q := he
    show (rdList rdInt 10 (p, 0)).2.2 = 7
    exact rdList_short rdInt l.length h5 (encI l) p q hq he (fun t ht => rdN_ints_short l t q h6 hq ht)
end V
end Go.Proofs.Ytkjlafklhdojmaa
