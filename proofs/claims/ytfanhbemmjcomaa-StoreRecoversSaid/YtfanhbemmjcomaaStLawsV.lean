/- The law StoreRecovers, walked. -/
import Derived.Test.YtfanhbemmjcomaaStOpen
import Derived.Test.YtfanhbemmjcomaaStDo
namespace Go.Proofs.Ytfanhbemmjcomaa
open Go.RowKit
set_option linter.unusedVariables false

namespace S
theorem got_app {k : UInt64} {c : List UInt8} : ∀ {P : List R} (Y : List R), get P k = some c → get (P ++ Y) k = some c
  | P, [], h => by rwa [List.append_nil]
  | P, y :: Y, h => by
    rw [show P ++ y :: Y = (P ++ [y]) ++ Y by simp]
    refine got_app Y ?_
    cases y with
    | obj b => exact get_snoc_some h
    | bind n j => rw [get_snoc_bind]; exact h
theorem bound_got : ∀ (m : Nat) (L : List R), L.length = m → Good L → ∀ n k, look L n = some k → ∃ c, get L k = some c
  | 0, L, hl, hg, n, k, h => by
    obtain rfl := List.eq_nil_of_length_eq_zero hl
    cases h
  | m + 1, L, hl, hg, n, k, h => by
    rcases List.eq_nil_or_concat L with rfl | ⟨P, r, rfl⟩
    · cases hl
    rw [List.concat_eq_append] at hl hg h ⊢
    · have hP : P.length = m := by simpa using hl
      have ih := bound_got m P hP hg.left n k
      cases r with
      | obj b =>
        rw [look_snoc_obj] at h
        obtain ⟨c, hc⟩ := ih h
        exact ⟨c, get_snoc_some hc⟩
      | bind a j =>
        rw [look_snoc_bind] at h
        by_cases ha : a = n
        · rw [if_pos ha] at h
          injection h with h; subst h
          obtain ⟨c, hc⟩ := (hg P (.bind a j) [] rfl).1
          exact ⟨c, by rw [get_snoc_bind]; exact hc⟩
        · rw [if_neg ha] at h
          obtain ⟨c, hc⟩ := ih h
          exact ⟨c, by rw [get_snoc_bind]; exact hc⟩
theorem doo_more (L : List R) (o : O) : ∃ e, (doo L o).1 = L ++ e := by
  unfold doo
  split
  · unfold put
    split
    · exact ⟨[], by rw [List.append_nil]⟩
    · split
      · split
        · exact ⟨[], by rw [List.append_nil]⟩
        · exact ⟨[], by rw [List.append_nil]⟩
      · exact ⟨_, rfl⟩
  · split
    · unfold bind
      split
      · exact ⟨[], by rw [List.append_nil]⟩
      · split
        · exact ⟨[], by rw [List.append_nil]⟩
        · exact ⟨_, rfl⟩
    · exact ⟨[], by rw [List.append_nil]⟩
theorem doo_two (L : List R) {o : O} (h : o.kind = 2) : (doo L o).1 = L := by
  unfold doo
  rw [if_neg (by omega), if_neg (by omega)]
/-- What was put is there. -/
theorem put_there {L : List R} {b : List UInt8} (hl : b.length ≤ 65536) : ∃ c, get (put L b).1 (key b) = some c := by
  unfold put
  rw [if_neg (by omega)]
  cases hg : get L (key b) with
  | some c =>
    simp only
    split
    · exact ⟨c, hg⟩
    · exact ⟨c, hg⟩
  | none => exact ⟨b, get_snoc_hit rfl hg⟩
/-- How far the operations have come: the records, what is permanent, the last Sync. -/
def Rec (ops : List O) (i : Nat) (L : List R) (sc sy syn : Nat) : Prop :=
  Good L ∧ sc ≤ L.length ∧ (log (L.take sc)).length = sy ∧ syn ≤ i ∧
  (∀ j o, j < i → ops[j]? = some o → o.kind = 0 → ∃ c, get L (key o.b) = some c) ∧
  (∀ j o, j < syn → ops[j]? = some o → o.kind = 0 → ∃ c, get (L.take sc) (key o.b) = some c)
theorem Rec.nil (ops : List O) : Rec ops 0 [] 0 0 0 :=
  ⟨Good.nil, Nat.le_refl _, rfl, Nat.le_refl _, fun j o h => absurd h (Nat.not_lt_zero _), fun j o h => absurd h (Nat.not_lt_zero _)⟩
theorem Rec.step {ops : List O} {i : Nat} {L : List R} {sc sy syn : Nat} (h : Rec ops i L sc sy syn) {o : O} (ho : ops[i]? = some o) (hok : o.Ok) :
    Rec ops (i + 1) (doo L o).1 (if o.kind = 2 then L.length else sc) (if o.kind = 2 then (log L).length else sy) (if o.kind = 2 then i else syn) := by
  obtain ⟨h1, h2, h3, h4, h5, h6⟩ := h
  obtain ⟨e, he⟩ := doo_more L o
  have hnew : ∀ j o', j < i + 1 → ops[j]? = some o' → o'.kind = 0 → ∃ c, get (doo L o).1 (key o'.b) = some c := by
    intro j o' hj hjo hk
    by_cases hji : j = i
    · subst hji
      rw [ho] at hjo
      injection hjo with hjo; subst hjo
      have : doo L o = put L o.b := by unfold doo; rw [if_pos hk]
      rw [this]
      exact put_there (by have := hok.len; omega)
    · obtain ⟨c, hc⟩ := h5 j o' (by omega) hjo hk
      rw [he]
      exact ⟨c, got_app e hc⟩
  by_cases hk : o.kind = 2
  · rw [if_pos hk, if_pos hk, if_pos hk]
    have e2 := doo_two L hk
    refine ⟨doo_good h1 o, by rw [e2]; exact Nat.le_refl _, by rw [e2, List.take_of_length_le (Nat.le_refl _)], Nat.le_succ _, hnew, fun j o' hj hjo hk' => ?_⟩
    rw [e2, List.take_of_length_le (Nat.le_refl _)]
    exact h5 j o' hj hjo hk'
  · rw [if_neg hk, if_neg hk, if_neg hk]
    refine ⟨doo_good h1 o, by rw [he, List.length_append]; omega, by rw [he, List.take_append_of_le_length h2]; exact h3, by omega, hnew, fun j o' hj hjo hk' => ?_⟩
    rw [he, List.take_append_of_le_length h2]
    exact h6 j o' hj hjo hk'
theorem log_part (L : List R) (k : Nat) : log L = log (L.take k) ++ log (L.drop k) := by
  unfold log
  rw [← List.flatMap_append, List.take_append_drop]
theorem log_mono (L : List R) {j k : Nat} (h : j ≤ k) : (log (L.take j)).length ≤ (log (L.take k)).length := by
  have := congrArg List.length (log_part (L.take k) j)
  rw [List.length_append, List.take_take, Nat.min_eq_left h] at this
  omega
/-- What is permanent survives. -/
theorem cut_sync {L : List R} {m k sc sy : Nat} (h : Cut L m k) (hsc : sc ≤ L.length) (hsy : (log (L.take sc)).length = sy) (hm : sy ≤ m) : sc ≤ k := by
  rcases Nat.lt_or_ge k sc with hk | hk
  · have h1 := h.2.2 (by omega)
    have h2 := log_mono L (show k + 1 ≤ sc from hk)
    omega
  · exact hk
theorem cut_log {L : List R} {m k nr : Nat} (h : Cut L m k) (hn : (log (L.take k)).length = nr) : (log L).take nr = log (L.take k) := by
  rw [log_part L k, ← hn, List.take_left]
theorem got_take {L : List R} {k : Nat} {x : UInt64} {c : List UInt8} (h : get (L.take k) x = some c) : get L x = some c := by
  have := got_app (L.drop k) h
  rwa [List.take_append_drop] at this
theorem got_more {L : List R} {j k : Nat} {x : UInt64} {c : List UInt8} (hjk : j ≤ k) (h : get (L.take j) x = some c) : get (L.take k) x = some c := by
  have e : L.take j = (L.take k).take j := by rw [List.take_take, Nat.min_eq_left hjk]
  rw [e] at h
  exact got_take h
end S
/-- Get, whatever is there. -/
theorem get_which (base g bo bn sy : Nat) (v : Value) (L : List S.R) (x : UInt64) (w : World) (h : StAt w base g bo bn v L sy) :
    Calls Try.prog 25 #[.pointer (some ⟨g, 0, none⟩), .int .u64 (x.toNat : Int)] w fun e w' => ∃ A k c b, e = .returned (.tuple #[.slice A k c, .bool b]) ∧ Below w.heap.size w w' := by
  cases hg : S.get L x with
  | none =>
    refine (get_none base g bo bn sy v L x hg w h).mono ?_
    rintro e w' ⟨A, c, rfl, hb⟩
    exact ⟨A, 0, c, false, rfl, hb⟩
  | some b =>
    refine (get_some base g bo bn sy b.length v L x b hg rfl w h).mono ?_
    rintro e w' ⟨A, c, rfl, _, _, hb⟩
    exact ⟨A, _, c, true, rfl, hb⟩

/-- The log's first n bytes, as a string. -/
def RecS (A : Option Addr) (c n : Nat) (l : List UInt8) (W : World) : Prop := (convert 22 9 (.slice A n c)).run Try.prog W = .ok (.string ⟨l.toArray⟩) W ∧ True
set_option maxRecDepth 10000 in
set_option maxHeartbeats 16000000 in
theorem storeRecovers_walk (a : Option Addr) (len cap : Nat) (zs : List Int) (left : Int) (w : World) (hr : IsRow .i64 w a len cap zs) (hleft : (Lit.int .i64 left).wf = true) :
    Calls Try.prog 7 #[.slice a len cap, .int .i64 left] w fun e W' => e = .returned (.bool true) ∧ Below w.heap.size w W' := by
  obtain ⟨ks, hkl, hlc, hcm, hrd, hwf⟩ := isRow_ints hr
  have HOPS := Lib.hid (fun W (h : Reads W W.heap.size 1 a len (iv ks)) => ops_any a len cap ks hkl (by omega) (fun n hn => wf_bd (hwf n hn)) W h)
  have HRD := Lib.hid hrd
  have hlb := wf_bd hleft
  clear hkl hlc hcm hwf hr hrd hleft
  go_enter Try.func7, Try.ntmps7
  go_wp2_with fail
  refine (new_any w).mono ?_
  rintro e w1 ⟨g, bo, bn, rfl, hs1, hb1⟩
  go_wp2_with fail
  refine (HOPS.out _ (HRD.out.later hb1)).mono ?_
  rintro e w2 ⟨A, n, c0', ops, rfl, hnc, hn16, hop, hok, hd2⟩
  have hs2 := hs1.later hd2
  have hb2 := blater hb1 (Nat.le_refl _) hd2
  have hop2 := hop.weaken (G := far g bo bn (.slice none 0 0)) hs1.far_lt
  have HOK := Lib.hid hok
  clear hs1 hd2 hop hok hb1 HOPS HRD
  go_wp2_with fail
  go_loopw [7, 8] (fun sv ix wr => ∃ (i syn : Nat) (v : Value) (L : List S.R) (sy sc : Nat), i ≤ n ∧ sv = .int .i64 (syn : Int) ∧ ix = .int .i64 (i : Int) ∧ L.length ≤ i ∧ StAt wr w.heap.size g bo bn v L sy ∧ OpsAt wr (far g bo bn v) A n ops ∧ Hid (S.Rec ops i L sc sy syn) ∧ Below w.heap.size w wr) (fun _ ix _ => n - (intOf ix).toNat)
  case atStart => exact ⟨0, 0, _, _, _, 0, Nat.zero_le _, rfl, rfl, Nat.le_refl _, hs2, hop2, Lib.hid (S.Rec.nil ops), hb2⟩
  case round =>
    obtain ⟨i, syn, v, L, sy, sc, hi1, rfl, rfl, hLi, hs, hop, hrec, hB⟩ := hrel
    clear hs2 hop2 hb2
    by_cases hlt : i < n
    · obtain ⟨ga, o, Ab, cb, rfl, hfg, hgl, ho, c0, c1, c2, c3, hrb, hAb⟩ := op_at hop hlt
      have hoo := HOK.out o (List.mem_of_getElem? ho)
      have hln := S.doo_len L o
      have hst := hrec.out.step ho hoo
      obtain ⟨⟨L', k, er⟩, hR⟩ : ∃ r, S.doo L o = r := ⟨_, rfl⟩
      rw [hR] at hln hst
      have hln : L'.length ≤ L.length + 1 := hln
      obtain ⟨kl, hkl⟩ : ∃ k, o.b.length = k := ⟨_, rfl⟩
      obtain ⟨kk, hkk⟩ : ∃ k, o.kind = k := ⟨_, rfl⟩
      obtain ⟨kn, hkn⟩ : ∃ k, o.num = k := ⟨_, rfl⟩
      obtain ⟨nm, hnm⟩ : ∃ k, o.name = k := ⟨_, rfl⟩
      rw [hkl] at c1 hrb
      rw [hkk] at c0 hst
      rw [hkn] at c3
      rw [hnm] at c2
      have HST := Lib.hid hst
      have HR := Lib.hid hR
      have HKL := Lib.hid hkl
      have HKK := Lib.hid hkk
      have HKN := Lib.hid hkn
      have HNM := Lib.hid hnm
      have HOO := Lib.hid hoo
      have HAB := Lib.hid hAb
      have hi1' : (0 : Int) ≤ (i : Int) := by omega
      have hi2' : (i : Int) < (n : Int) := by omega
      clear hR hkl hkk hkn hnm hoo hAb ho hst
      obtain ⟨w3, rfl⟩ : ∃ x, x = wr := ⟨_, rfl⟩
      go_wp2_with fail
      refine (do_any w.heap.size g bo bn sy v L o HOO.out kl kk kn nm HKL.out HKK.out HKN.out HNM.out Ab cb (by omega) L' k er HR.out _ hs hrb (fun ad e => HAB.out ad e)).mono ?_
      rintro e w5 ⟨rfl, v5, hs5, ht5, hn5⟩
      have hop5 := hop.turn ht5 hn5.far
      have hB5 := hB.trans (hs.turn_below ht5 (Nat.le_refl _))
      have d0 := ht5.cell c0 hfg
      clear hs hop hB c0 c1 c2 c3 hrb ht5 hn5
      by_cases hk2 : kk = 2
      · subst hk2
        rw [if_pos rfl] at hs5
        have hst := HST.out
        rw [if_pos rfl, if_pos rfl, if_pos rfl] at hst
        have HST2 := Lib.hid hst
        clear hst
        go_wp2_with fail
        go_roundw
        case rel => exact ⟨i + 1, i, v5, L', _, _, by omega, by rfl, by go_num, by omega, hs5, hop5, HST2, hB5⟩
        case measure => simp [intOf]; omega
      · rw [if_neg hk2] at hs5
        have hst := HST.out
        rw [if_neg hk2, if_neg hk2, if_neg hk2] at hst
        have HST2 := Lib.hid hst
        have hk3 : ((kk : Int) == 2) = false := by rw [beq_eq_false_iff_ne]; omega
        clear hst
        go_wp2_with fail
        go_roundw
        case rel => exact ⟨i + 1, syn, v5, L', _, _, by omega, by rfl, by go_num, by omega, hs5, hop5, HST2, hB5⟩
        case measure => simp [intOf]; omega
    · have hi2' : (n : Int) ≤ (i : Int) := by omega
      have hin : i = n := by omega
      have HREC := Lib.hid (show S.Rec ops n L sc sy syn by rw [← hin]; exact hrec.out)
      have hsyn : syn ≤ n := HREC.out.2.2.2.1
      obtain ⟨nl, hnl⟩ : ∃ k, (S.log L).length = k := ⟨_, rfl⟩
      obtain ⟨lg, hlg⟩ : ∃ l, S.log L = l := ⟨_, rfl⟩
      have hlgn : lg.length = nl := by rw [← hlg]; exact hnl
      have hnl2 : nl ≤ 13120000 := by rw [← hnl]; have := S.log_len hs.small; have := hs.few; omega
      have hsyl : sy ≤ nl := by rw [← hnl]; exact hs.sync
      have HNL := Lib.hid hnl
      have HLG := Lib.hid hlg
      have HLN := Lib.hid hlgn
      have har := arN_bd left ((nl : Int) + 2) (by omega)
      obtain ⟨kx, hkx⟩ : ∃ kx : Nat, arN left ((nl : Int) + 2) = (kx : Int) := ⟨(arN left ((nl : Int) + 2)).toNat, by omega⟩
      rw [hkx] at har
      have HKX := Lib.hid hkx
      obtain ⟨m, hm⟩ : ∃ m : Nat, (m : Int) = sy + max 0 (min ((kx : Int) - 1) ((nl : Int) - sy)) := ⟨((sy : Int) + max 0 (min ((kx : Int) - 1) ((nl : Int) - sy))).toNat, by omega⟩
      have hmn : m ≤ nl := by omega
      have hsm : sy ≤ m := by omega
      have HM := Lib.hid hm
      have hLw : L.length ≤ 200 := hs.few
      obtain ⟨w10, rfl⟩ : ∃ y, y = wr := ⟨_, rfl⟩
      clear hnl hlg hlgn hkx hm hrec hin
      go_wp2_with fail
      refine (sbytes_any w.heap.size g bo bn sy nl v L HNL.out _ hs).mono ?_
      rintro e w3 ⟨A3, c3, rfl, hc3, hown3, hd3⟩
      have hs3 := hs.later hd3
      have hop3 := hop.turn (Turn.of_below (far g bo bn v) hd3) (fun i hi => .inl hi)
      have hb3 := blater hB (Nat.le_refl _) hd3
      have hr3 := Reads.of_own hown3
      rw [HLG.out] at hr3
      clear hs hop hB hown3 hd3
      go_wp2_with fail
      refine (around_any left ((nl : Int) + 2) hlb.1 hlb.2 (by omega) (by omega) w3).mono ?_
      rintro e w4 ⟨rfl, rfl⟩
      rw [HKX.out]
      go_wp2_with fail
      refine (crash_any w.heap.size g bo bn sy nl m ((kx : Int) - 1) (by omega) (by omega) v L HNL.out HM.out _ hs3).mono ?_
      rintro e w5 ⟨A5, c5, rfl, hc5, hown5, hd5⟩
      have hs5 := hs3.later hd5
      have hop5 := hop3.turn (Turn.of_below (far g bo bn v) hd5) (fun i hi => .inl hi)
      have hb5 := blater hb3 (Nat.le_refl _) hd5
      have hr5 := hr3.later hd5
      have hro5 := Reads.of_own hown5
      clear hs3 hop3 hb3 hr3 hown5 hd5
      go_wp2_with fail
      refine (open_any A5 m c5 L HREC.out.1 hLw (by rw [HNL.out]; exact hmn) hc5 w5 hro5).mono ?_
      rintro e w6 ⟨g7, bo7, bn7, v7, kc, rfl, hs7, hcut, hd6⟩
      have hs6 := hs5.later hd6
      have hop6 := hop5.turn (Turn.of_below (far g bo bn v) hd6) (fun i hi => .inl hi)
      have hb6 := blater hb5 (Nat.le_refl _) hd6
      have hr6 := hr5.later hd6
      obtain ⟨B, hB⟩ : ∃ y, w5.heap.size = y := ⟨_, rfl⟩
      rw [hB] at hs7
      have hsck : sc ≤ kc := S.cut_sync hcut HREC.out.2.1 HREC.out.2.2.1 hsm
      obtain ⟨nr, hnr⟩ : ∃ k, (S.log (L.take kc)).length = k := ⟨_, rfl⟩
      have hnrn : nr ≤ nl := by have := hcut.2.1; rw [hnr] at this; omega
      have hsnr : sy ≤ nr := by have := S.log_mono L hsck; rw [HREC.out.2.2.1, hnr] at this; exact this
      have hlr : lg.take nr = S.log (L.take kc) := by rw [← HLG.out]; exact S.cut_log hcut hnr
      have HCK := Lib.hid (And.intro hcut hsck)
      have hG7 : S.Good (L.take kc) := HREC.out.1.take kc
      have HG7 := Lib.hid hG7
      rw [hnr] at hs7
      obtain ⟨L7, hL7⟩ : ∃ l, L.take kc = l := ⟨_, rfl⟩
      rw [hL7] at hs7 hnr hlr
      obtain ⟨l7, hl7⟩ : ∃ l, S.log L7 = l := ⟨_, rfl⟩
      rw [hl7] at hlr
      have hl7n : l7.length = nr := by rw [← hl7]; exact hnr
      have HNR := Lib.hid hnr
      have HLR := Lib.hid hlr
      have HL7 := Lib.hid hL7
      have Hl7 := Lib.hid hl7
      have Hl7n := Lib.hid hl7n
      have q1 : ¬ ((nr : Int) < (sy : Int)) := by omega
      have q2 : ¬ ((nl : Int) < (nr : Int)) := by omega
      clear hs5 hop5 hb5 hr5 hro5 hd6 hcut hsck hnr hlr hG7 hL7 hl7 hl7n
      go_wp2_with fail
      refine (synced_any B g7 bo7 bn7 nr v7 L7 _ hs7).mono ?_
      rintro e wz ⟨rfl, rfl⟩
      go_wp2_with fail
      refine (sbytes_any B g7 bo7 bn7 nr nr v7 L7 HNR.out _ hs7).mono ?_
      rintro e w8 ⟨A8, c8, rfl, hc8, _, hd8⟩
      go_wp2_with fail
      refine (sbytes_any B g7 bo7 bn7 nr nr v7 L7 HNR.out _ (hs7.later hd8)).mono ?_
      rintro e w9 ⟨A9, c9, rfl, hc9, _, hd9⟩
      have hd9 := blater hd8 (Nat.le_refl _) hd9
      go_wp2_with fail
      refine (synced_any w.heap.size g bo bn sy v L _ (hs6.later hd9)).mono ?_
      rintro e wz ⟨rfl, rfl⟩
      go_wp2_with fail
      refine (sbytes_any B g7 bo7 bn7 nr nr v7 L7 HNR.out _ (hs7.later hd9)).mono ?_
      rintro e w11 ⟨A11, c11, rfl, hc11, _, hd11⟩
      have hd11 := blater hd9 (Nat.le_refl _) hd11
      have hs11 := hs6.later hd11
      have hs71 := hs7.later hd11
      have hop11 := hop6.turn (Turn.of_below (far g bo bn v) hd11) (fun i hi => .inl hi)
      have hb11 := blater hb6 (Nat.le_refl _) hd11
      have hr11 := hr6.later hd11
      clear hs6 hs7 hop6 hb6 hr6 hd8 hd9 hd11
      go_wp2_with fail
      have hdr : Below w11.heap.size w11 w11.drew := Below.drew (Below.refl w11.heap.size w11)
      have hrt : Reads w11.drew w11.drew.heap.size 1 A3 nr (bv l7) := by have := (hr11.later hdr).take hnrn; rw [← few_take, HLR.out] at this; exact this
      have hS0 : RecS A3 c3 nr l7 w11.drew := ⟨conv_string w11.drew A3 nr c3 l7 Hl7n.out hrt, trivial⟩
      have hsd := hs11.later hdr
      have hs7d := hs71.later hdr
      have hopd := hop11.turn (Turn.of_below (far g bo bn v) hdr) (fun i hi => .inl hi)
      have hbd := blater hb11 (Nat.le_refl _) hdr
      have y1 : (0 : Int) ≤ (nr : Int) := by omega
      have y2 : (nr : Int) ≤ (c3 : Int) := by omega
      have y3 : nr ≤ c3 := by omega
      clear hdr hs11 hs71 hop11 hb11 hr11
      refine wp_region_held_drew (S := RecS A3 c3 nr l7) (by kernel_rfl) hS0 (fun hHeld => ?_)
      clear hHeld
      (try simp only [Act.put, List.setIfInBounds_toArray, List.set_cons_zero, List.set_cons_succ])
      refine wpAnyH_take (i := 0) (oi := { dst := some 92, op := Op.move (Operand.tmp 11), type := 25, pos := _, after := #[], guard := none }) (v := ?_) rfl (by kernel_rfl) (by kernel_rfl) (by kernel_rfl) (fun _ _ _ h => h) (Or.inl ⟨by rfl, ?_⟩) hS0 ?_
      rotate_left
      · intro w hSw; obtain ⟨z1, _⟩ := hSw; go_simp; try with_reducible rfl
      (try simp only [Act.put, List.setIfInBounds_toArray, List.set_cons_zero, List.set_cons_succ])
      refine wpAnyH_take (i := 3) (oi := { dst := some 95, op := Op.move (Operand.tmp 9), type := 22, pos := _, after := #[], guard := none }) (v := ?_) rfl (by kernel_rfl) (by kernel_rfl) (by kernel_rfl) (fun _ _ _ h => h) (Or.inl ⟨by rfl, ?_⟩) hS0 ?_
      rotate_left
      · intro w hSw; obtain ⟨z1, _⟩ := hSw; go_simp; try with_reducible rfl
      (try simp only [Act.put, List.setIfInBounds_toArray, List.set_cons_zero, List.set_cons_succ])
      refine wpAnyH_take (i := 4) (oi := { dst := some 96, op := Op.move (Operand.tmp 11), type := 25, pos := _, after := #[], guard := none }) (v := ?_) rfl (by kernel_rfl) (by kernel_rfl) (by kernel_rfl) (fun _ _ _ h => h) (Or.inl ⟨by rfl, ?_⟩) hS0 ?_
      rotate_left
      · intro w hSw; obtain ⟨z1, _⟩ := hSw; go_simp; try with_reducible rfl
      (try simp only [Act.put, List.setIfInBounds_toArray, List.set_cons_zero, List.set_cons_succ])
      refine wpAnyH_ready (rs := [1]) (by kernel_rfl) (by simp) (AllReadyH.cons (o := { dst := some 93, op := Op.call { callee := Callee.value (Operand.func 19), args := #[Operand.tmp 92], argTypes := #[25] }, type := 22, pos := _, after := #[{ on := 0, ground := Ground.data }], guard := none }) rfl (fun K hK => ?_) AllReadyH.nil)
      go_simp
      go_at_call 19
      refine (sbytes_any B g7 bo7 bn7 nr nr v7 L7 HNR.out _ hs7d).mono ?_
      rintro e wb ⟨Ab, cb, rfl, _, hownb, hdb⟩
      rw [Hl7.out] at hownb
      have hrb := Reads.of_own hownb
      have hS1 : RecS A3 c3 nr l7 wb := ⟨conv_string wb A3 nr c3 l7 Hl7n.out (hrt.later hdb), trivial⟩
      have hcx := conv_string wb Ab nr cb l7 Hl7n.out hrb
      go_simp
      refine hK.out _ _ hS1 (fun hHeld => ?_)
      clear hK K hHeld
      (try simp only [Act.put, List.setIfInBounds_toArray, List.set_cons_zero, List.set_cons_succ])
      refine wpAnyH_ready (rs := [2, 5]) (by kernel_rfl) (by simp) (AllReadyH.cons (o := { dst := some 94, op := Op.convert 22 9 (Operand.tmp 93), type := 9, pos := _, after := #[{ on := 1, ground := Ground.data }], guard := none }) rfl (fun K hK => ?_) (AllReadyH.cons (o := { dst := some 97, op := Op.call { callee := Callee.value (Operand.func 19), args := #[Operand.tmp 96], argTypes := #[25] }, type := 22, pos := _, after := #[{ on := 4, ground := Ground.data }, { on := 1, ground := Ground.chain }], guard := none }) rfl (fun K hK => ?_) AllReadyH.nil))
      · go_simp
        refine hK.out _ _ hS1 (fun hHeld => ?_)
        clear hK K hHeld
        (try simp only [Act.put, List.setIfInBounds_toArray, List.set_cons_zero, List.set_cons_succ])
        refine wpAnyH_ready (rs := [5]) (by kernel_rfl) (by simp) (AllReadyH.cons (o := { dst := some 97, op := Op.call { callee := Callee.value (Operand.func 19), args := #[Operand.tmp 96], argTypes := #[25] }, type := 22, pos := _, after := #[{ on := 4, ground := Ground.data }, { on := 1, ground := Ground.chain }], guard := none }) rfl (fun K hK => ?_) AllReadyH.nil)
        go_simp
        go_at_call 19
        refine (sbytes_any B g7 bo7 bn7 nr nr v7 L7 HNR.out _ (hs7d.later hdb)).mono ?_
        rintro e wc ⟨Ac, cc, rfl, _, _, hdc⟩
        have hdc := blater hdb (Nat.le_refl _) hdc
        have hS2 : RecS A3 c3 nr l7 wc := ⟨conv_string wc A3 nr c3 l7 Hl7n.out (hrt.later hdc), trivial⟩
        go_simp
        refine hK.out _ _ hS2 (fun hHeld => ?_)
        clear hK K hHeld
        (try simp only [Act.put, List.setIfInBounds_toArray, List.set_cons_zero, List.set_cons_succ])
        refine wpAnyH_take (i := 6) (oi := { dst := some 98, op := Op.call { callee := Callee.builtin Builtin.len, args := #[Operand.tmp 97], argTypes := #[22] }, type := 3, pos := _, after := #[{ on := 5, ground := Ground.data }], guard := none }) (v := ?_) rfl (by kernel_rfl) (by kernel_rfl) (by kernel_rfl) (fun _ _ _ h => h) (Or.inl ⟨by rfl, ?_⟩) hS2 ?_
        rotate_left
        · intro w hSw; obtain ⟨z1, _⟩ := hSw; go_simp; try with_reducible rfl
        (try simp only [Act.put, List.setIfInBounds_toArray, List.set_cons_zero, List.set_cons_succ])
        refine wpAnyH_take (i := 7) (oi := { dst := some 99, op := Op.slice 22 (Operand.tmp 95) none (some (Operand.tmp 98)) none, type := 22, pos := _, after := #[{ on := 3, ground := Ground.data }, { on := 6, ground := Ground.data }], guard := none }) (v := ?_) rfl (by kernel_rfl) (by kernel_rfl) (by kernel_rfl) (fun _ _ _ h => h) (Or.inl ⟨by rfl, ?_⟩) hS2 ?_
        rotate_left
        · intro w hSw; obtain ⟨z1, _⟩ := hSw; go_simp; try with_reducible rfl
        (try simp only [Act.put, List.setIfInBounds_toArray, List.set_cons_zero, List.set_cons_succ])
        refine wpAnyH_take (i := 8) (oi := { dst := some 100, op := Op.convert 22 9 (Operand.tmp 99), type := 9, pos := _, after := #[{ on := 7, ground := Ground.data }], guard := none }) (v := ?_) rfl (by kernel_rfl) (by kernel_rfl) (by kernel_rfl) (fun _ _ _ h => h) (Or.inl ⟨by rfl, ?_⟩) hS2 ?_
        rotate_left
        · intro w hSw; obtain ⟨z1, _⟩ := hSw; go_simp; try with_reducible rfl
        (try simp only [Act.put, List.setIfInBounds_toArray, List.set_cons_zero, List.set_cons_succ])
        refine wpAnyH_take (i := 9) (oi := { dst := some 101, op := Op.binOp BinOp.neq 9 (Operand.tmp 94) (Operand.tmp 100) 9, type := 4, pos := _, after := #[{ on := 2, ground := Ground.data }, { on := 8, ground := Ground.data }], guard := none }) (v := ?_) rfl (by kernel_rfl) (by kernel_rfl) (by kernel_rfl) (fun _ _ _ h => h) (Or.inl ⟨by rfl, ?_⟩) hS2 ?_
        rotate_left
        · intro w hSw; obtain ⟨z1, _⟩ := hSw; go_simp; try with_reducible rfl
        (try simp only [Act.put, List.setIfInBounds_toArray, List.set_cons_zero, List.set_cons_succ])
        refine wpAnyH_done (by kernel_rfl) ?_ _
        have hsc := hsd.later hdc
        have hs7c := hs7d.later hdc
        have hopc := hopd.turn (Turn.of_below (far g bo bn v) hdc) (fun i hi => .inl hi)
        have hbc := blater hbd (Nat.le_refl _) hdc
        clear hsd hs7d hopd hbd hS0 hS1 hS2 hrt hdb hdc hownb hrb hcx
        go_wp2_with fail
        go_loopw [13] (fun ix wr => ∃ i : Nat, i ≤ n ∧ ix = .int .i64 (i : Int) ∧ Below wc.heap.size wc wr) (fun ix _ => n - (intOf ix).toNat)
        case atStart => exact ⟨0, Nat.zero_le _, rfl, Below.refl _ _⟩
        case round =>
          obtain ⟨i, hi1, rfl, hd⟩ := hrel
          have hsw := hsc.later hd
          have hs7w := hs7c.later hd
          have hopw := hopc.turn (Turn.of_below (far g bo bn v) hd) (fun i hi => .inl hi)
          by_cases hlt : i < n
          · have hi1' : (0 : Int) ≤ (i : Int) := by omega
            have hi2' : (i : Int) < (n : Int) := by omega
            obtain ⟨ga, o, Ao, co, rfl, hfg, hgl, ho, c0, c1, c2, c3', hro, hAo⟩ := op_at hopw hlt
            have hoo := HOK.out o (List.mem_of_getElem? ho)
            have hol := hoo.len
            obtain ⟨kl, hkl⟩ : ∃ k, o.b.length = k := ⟨_, rfl⟩
            obtain ⟨kk, hkk⟩ : ∃ k, o.kind = k := ⟨_, rfl⟩
            obtain ⟨nm, hnm⟩ : ∃ k, o.name = k := ⟨_, rfl⟩
            obtain ⟨x, hx⟩ : ∃ x, S.key o.b = x := ⟨_, rfl⟩
            rw [hkl] at c1 hro hol
            rw [hkk] at c0
            rw [hnm] at c2
            have hkeep : i < syn → kk = 0 → ∃ c, S.get L7 x = some c := fun h1 h2 => by
              obtain ⟨c, hc⟩ := HREC.out.2.2.2.2.2 i o h1 ho (hkk.trans h2)
              exact ⟨c, by rw [← HL7.out, ← hx]; exact S.got_more HCK.out.2 hc⟩
            have HKL := Lib.hid hkl
            have HX := Lib.hid hx
            have HKEEP := Lib.hid hkeep
            clear hkl hkk hnm hx hkeep c3' ho hoo
            obtain ⟨wv, rfl⟩ : ∃ y, y = wr := ⟨_, rfl⟩
            go_wp2_with fail
            refine (key_any Ao kl co o.b x HX.out HKL.out (by omega) wv hro).mono ?_
            rintro e wk ⟨rfl, hdk⟩
            have hsk := hsw.later hdk
            have hs7k := hs7w.later hdk
            cases hgx : S.get L7 x with
            | none =>
              have HGX := Lib.hid hgx
              have hno : ¬ (i < syn ∧ kk = 0) := fun h => by obtain ⟨c, hc⟩ := HKEEP.out h.1 h.2; rw [hgx] at hc; cases hc
              clear hgx
              go_wp2_with fail
              refine (get_which w.heap.size g bo bn sy v L x _ hsk).mono ?_
              rintro e wg ⟨Ag, kg, cg, bg, rfl, hdg⟩
              have hdg := blater hdk (Nat.le_refl _) hdg
              go_wp2_with fail
              refine (get_none B g7 bo7 bn7 nr v7 L7 x HGX.out _ (hs7w.later hdg)).mono ?_
              rintro e wh ⟨Ah, ch, rfl, hdh⟩
              have hdh := blater hdg (Nat.le_refl _) hdh
              have e0 := (hdh.cell (p := ⟨ga, i * 4, none⟩) hgl).trans c0
              have e2 := (hdh.cell (p := ⟨ga, i * 4 + 2, none⟩) hgl).trans c2
              have hs7h := hs7w.later hdh
              have hdhh := blater hd (Nat.le_refl _) hdh
              clear hsk hs7k hdk hdg hdh hsw hs7w hopw hd c0 c1 c2 hro hAo
              by_cases hsn : i < syn
              · have hsn' : (i : Int) < (syn : Int) := by omega
                by_cases hk0 : kk = 0
                · exact absurd ⟨hsn, hk0⟩ hno
                · have hk0' : ((kk : Int) == 0) = false := by rw [beq_eq_false_iff_ne]; omega
                  go_wp2_with fail
                  cases hlk : S.look L7 nm with
                  | none =>
                    have HLK := Lib.hid (show (match S.look L7 nm with | some j => (j, true) | none => (0, false)) = ((0 : UInt64), false) by rw [hlk])
                    clear hlk
                    refine (lookup_any B g7 bo7 bn7 nr v7 L7 nm 0 false HLK.out _ hs7h).mono ?_
                    rintro e wz ⟨rfl, rfl⟩
                    go_wp2_with fail
                    go_roundw
                    case rel => exact ⟨i + 1, by omega, by go_num, hdhh⟩
                    case measure => simp [intOf]; omega
                  | some tk =>
                    have HLK := Lib.hid (show (match S.look L7 nm with | some j => (j, true) | none => (0, false)) = (tk, true) by rw [hlk])
                    obtain ⟨c9, hc9⟩ := S.bound_got _ L7 rfl (by rw [← HL7.out]; exact HG7.out) nm tk hlk
                    have HC9 := Lib.hid hc9
                    clear hlk hc9
                    refine (lookup_any B g7 bo7 bn7 nr v7 L7 nm tk true HLK.out _ hs7h).mono ?_
                    rintro e wz ⟨rfl, rfl⟩
                    go_wp2_with fail
                    refine (get_some B g7 bo7 bn7 nr c9.length v7 L7 tk c9 HC9.out rfl _ hs7h).mono ?_
                    rintro e wy ⟨Ay, cy, rfl, _, _, hdy⟩
                    go_wp2_with fail
                    go_roundw
                    case rel => exact ⟨i + 1, by omega, by go_num, blater hdhh (Nat.le_refl _) hdy⟩
                    case measure => simp [intOf]; omega
              · have hsn' : ¬ (i : Int) < (syn : Int) := by omega
                go_wp2_with fail
                cases hlk : S.look L7 nm with
                | none =>
                  have HLK := Lib.hid (show (match S.look L7 nm with | some j => (j, true) | none => (0, false)) = ((0 : UInt64), false) by rw [hlk])
                  clear hlk
                  refine (lookup_any B g7 bo7 bn7 nr v7 L7 nm 0 false HLK.out _ hs7h).mono ?_
                  rintro e wz ⟨rfl, rfl⟩
                  go_wp2_with fail
                  go_roundw
                  case rel => exact ⟨i + 1, by omega, by go_num, hdhh⟩
                  case measure => simp [intOf]; omega
                | some tk =>
                  have HLK := Lib.hid (show (match S.look L7 nm with | some j => (j, true) | none => (0, false)) = (tk, true) by rw [hlk])
                  obtain ⟨c9, hc9⟩ := S.bound_got _ L7 rfl (by rw [← HL7.out]; exact HG7.out) nm tk hlk
                  have HC9 := Lib.hid hc9
                  clear hlk hc9
                  refine (lookup_any B g7 bo7 bn7 nr v7 L7 nm tk true HLK.out _ hs7h).mono ?_
                  rintro e wz ⟨rfl, rfl⟩
                  go_wp2_with fail
                  refine (get_some B g7 bo7 bn7 nr c9.length v7 L7 tk c9 HC9.out rfl _ hs7h).mono ?_
                  rintro e wy ⟨Ay, cy, rfl, _, _, hdy⟩
                  go_wp2_with fail
                  go_roundw
                  case rel => exact ⟨i + 1, by omega, by go_num, blater hdhh (Nat.le_refl _) hdy⟩
                  case measure => simp [intOf]; omega
            | some c =>
              have HGX := Lib.hid hgx
              have HGL := Lib.hid (show S.get L x = some c from by rw [← HL7.out] at hgx; exact S.got_take hgx)
              obtain ⟨kc', hkc'⟩ : ∃ k, c.length = k := ⟨_, rfl⟩
              have HKC := Lib.hid hkc'
              clear hgx hkc'
              go_wp2_with fail
              refine (get_some w.heap.size g bo bn sy kc' v L x c HGL.out HKC.out _ hsk).mono ?_
              rintro e wg ⟨Ag, cg, rfl, _, howng, hdg⟩
              have hrg := Reads.of_own howng
              have hdg := blater hdk (Nat.le_refl _) hdg
              go_wp2_with fail
              refine (get_some B g7 bo7 bn7 nr kc' v7 L7 x c HGX.out HKC.out _ (hs7w.later hdg)).mono ?_
              rintro e wh ⟨Ah, ch, rfl, _, hownh, hdh⟩
              have m1 := conv_string wh Ah kc' ch c HKC.out (Reads.of_own hownh)
              have m2 := conv_string wh Ag kc' cg c HKC.out (hrg.later hdh)
              have hdh := blater hdg (Nat.le_refl _) hdh
              have e0 := (hdh.cell (p := ⟨ga, i * 4, none⟩) hgl).trans c0
              have e2 := (hdh.cell (p := ⟨ga, i * 4 + 2, none⟩) hgl).trans c2
              have hs7h := hs7w.later hdh
              have hdhh := blater hd (Nat.le_refl _) hdh
              clear hsk hs7k hdk hdg hdh hsw hs7w hopw hd c0 c1 c2 hro hAo
              by_cases hsn : i < syn
              · have hsn' : (i : Int) < (syn : Int) := by omega
                by_cases hk0 : kk = 0
                · have hk0' : ((kk : Int) == 0) = true := by rw [beq_iff_eq]; omega
                  go_wp2_with fail
                  cases hlk : S.look L7 nm with
                  | none =>
                    have HLK := Lib.hid (show (match S.look L7 nm with | some j => (j, true) | none => (0, false)) = ((0 : UInt64), false) by rw [hlk])
                    clear hlk
                    refine (lookup_any B g7 bo7 bn7 nr v7 L7 nm 0 false HLK.out _ hs7h).mono ?_
                    rintro e wz ⟨rfl, rfl⟩
                    go_wp2_with fail
                    go_roundw
                    case rel => exact ⟨i + 1, by omega, by go_num, hdhh⟩
                    case measure => simp [intOf]; omega
                  | some tk =>
                    have HLK := Lib.hid (show (match S.look L7 nm with | some j => (j, true) | none => (0, false)) = (tk, true) by rw [hlk])
                    obtain ⟨c9, hc9⟩ := S.bound_got _ L7 rfl (by rw [← HL7.out]; exact HG7.out) nm tk hlk
                    have HC9 := Lib.hid hc9
                    clear hlk hc9
                    refine (lookup_any B g7 bo7 bn7 nr v7 L7 nm tk true HLK.out _ hs7h).mono ?_
                    rintro e wz ⟨rfl, rfl⟩
                    go_wp2_with fail
                    refine (get_some B g7 bo7 bn7 nr c9.length v7 L7 tk c9 HC9.out rfl _ hs7h).mono ?_
                    rintro e wy ⟨Ay, cy, rfl, _, _, hdy⟩
                    go_wp2_with fail
                    go_roundw
                    case rel => exact ⟨i + 1, by omega, by go_num, blater hdhh (Nat.le_refl _) hdy⟩
                    case measure => simp [intOf]; omega
                · have hk0' : ((kk : Int) == 0) = false := by rw [beq_eq_false_iff_ne]; omega
                  go_wp2_with fail
                  cases hlk : S.look L7 nm with
                  | none =>
                    have HLK := Lib.hid (show (match S.look L7 nm with | some j => (j, true) | none => (0, false)) = ((0 : UInt64), false) by rw [hlk])
                    clear hlk
                    refine (lookup_any B g7 bo7 bn7 nr v7 L7 nm 0 false HLK.out _ hs7h).mono ?_
                    rintro e wz ⟨rfl, rfl⟩
                    go_wp2_with fail
                    go_roundw
                    case rel => exact ⟨i + 1, by omega, by go_num, hdhh⟩
                    case measure => simp [intOf]; omega
                  | some tk =>
                    have HLK := Lib.hid (show (match S.look L7 nm with | some j => (j, true) | none => (0, false)) = (tk, true) by rw [hlk])
                    obtain ⟨c9, hc9⟩ := S.bound_got _ L7 rfl (by rw [← HL7.out]; exact HG7.out) nm tk hlk
                    have HC9 := Lib.hid hc9
                    clear hlk hc9
                    refine (lookup_any B g7 bo7 bn7 nr v7 L7 nm tk true HLK.out _ hs7h).mono ?_
                    rintro e wz ⟨rfl, rfl⟩
                    go_wp2_with fail
                    refine (get_some B g7 bo7 bn7 nr c9.length v7 L7 tk c9 HC9.out rfl _ hs7h).mono ?_
                    rintro e wy ⟨Ay, cy, rfl, _, _, hdy⟩
                    go_wp2_with fail
                    go_roundw
                    case rel => exact ⟨i + 1, by omega, by go_num, blater hdhh (Nat.le_refl _) hdy⟩
                    case measure => simp [intOf]; omega
              · have hsn' : ¬ (i : Int) < (syn : Int) := by omega
                go_wp2_with fail
                cases hlk : S.look L7 nm with
                | none =>
                  have HLK := Lib.hid (show (match S.look L7 nm with | some j => (j, true) | none => (0, false)) = ((0 : UInt64), false) by rw [hlk])
                  clear hlk
                  refine (lookup_any B g7 bo7 bn7 nr v7 L7 nm 0 false HLK.out _ hs7h).mono ?_
                  rintro e wz ⟨rfl, rfl⟩
                  go_wp2_with fail
                  go_roundw
                  case rel => exact ⟨i + 1, by omega, by go_num, hdhh⟩
                  case measure => simp [intOf]; omega
                | some tk =>
                  have HLK := Lib.hid (show (match S.look L7 nm with | some j => (j, true) | none => (0, false)) = (tk, true) by rw [hlk])
                  obtain ⟨c9, hc9⟩ := S.bound_got _ L7 rfl (by rw [← HL7.out]; exact HG7.out) nm tk hlk
                  have HC9 := Lib.hid hc9
                  clear hlk hc9
                  refine (lookup_any B g7 bo7 bn7 nr v7 L7 nm tk true HLK.out _ hs7h).mono ?_
                  rintro e wz ⟨rfl, rfl⟩
                  go_wp2_with fail
                  refine (get_some B g7 bo7 bn7 nr c9.length v7 L7 tk c9 HC9.out rfl _ hs7h).mono ?_
                  rintro e wy ⟨Ay, cy, rfl, _, _, hdy⟩
                  go_wp2_with fail
                  go_roundw
                  case rel => exact ⟨i + 1, by omega, by go_num, blater hdhh (Nat.le_refl _) hdy⟩
                  case measure => simp [intOf]; omega
          · have hi2' : (n : Int) ≤ (i : Int) := by omega
            have hbz := blater hbc (Nat.le_refl _) hd
            go_wp2_with fail
            refine (lives_any _).mono ?_
            rintro e wl ⟨rfl, hdl⟩
            go_wp2_with fail
            go_ret
            exact ⟨rfl, blater hbz (Nat.le_refl _) hdl⟩
      · go_simp
        go_at_call 19
        refine (sbytes_any B g7 bo7 bn7 nr nr v7 L7 HNR.out _ (hs7d.later hdb)).mono ?_
        rintro e wc ⟨Ac, cc, rfl, _, _, hdc⟩
        have hcx2 := conv_string wc Ab nr cb l7 Hl7n.out (hrb.later (hdc))
        have hdc := blater hdb (Nat.le_refl _) hdc
        have hS2 : RecS A3 c3 nr l7 wc := ⟨conv_string wc A3 nr c3 l7 Hl7n.out (hrt.later hdc), trivial⟩
        go_simp
        refine hK.out _ _ hS2 (fun hHeld => ?_)
        clear hK K hHeld
        (try simp only [Act.put, List.setIfInBounds_toArray, List.set_cons_zero, List.set_cons_succ])
        refine wpAnyH_take (i := 6) (oi := { dst := some 98, op := Op.call { callee := Callee.builtin Builtin.len, args := #[Operand.tmp 97], argTypes := #[22] }, type := 3, pos := _, after := #[{ on := 5, ground := Ground.data }], guard := none }) (v := ?_) rfl (by kernel_rfl) (by kernel_rfl) (by kernel_rfl) (fun _ _ _ h => h) (Or.inl ⟨by rfl, ?_⟩) hS2 ?_
        rotate_left
        · intro w hSw; obtain ⟨z1, _⟩ := hSw; go_simp; try with_reducible rfl
        (try simp only [Act.put, List.setIfInBounds_toArray, List.set_cons_zero, List.set_cons_succ])
        refine wpAnyH_take (i := 7) (oi := { dst := some 99, op := Op.slice 22 (Operand.tmp 95) none (some (Operand.tmp 98)) none, type := 22, pos := _, after := #[{ on := 3, ground := Ground.data }, { on := 6, ground := Ground.data }], guard := none }) (v := ?_) rfl (by kernel_rfl) (by kernel_rfl) (by kernel_rfl) (fun _ _ _ h => h) (Or.inl ⟨by rfl, ?_⟩) hS2 ?_
        rotate_left
        · intro w hSw; obtain ⟨z1, _⟩ := hSw; go_simp; try with_reducible rfl
        (try simp only [Act.put, List.setIfInBounds_toArray, List.set_cons_zero, List.set_cons_succ])
        refine wpAnyH_take (i := 8) (oi := { dst := some 100, op := Op.convert 22 9 (Operand.tmp 99), type := 9, pos := _, after := #[{ on := 7, ground := Ground.data }], guard := none }) (v := ?_) rfl (by kernel_rfl) (by kernel_rfl) (by kernel_rfl) (fun _ _ _ h => h) (Or.inl ⟨by rfl, ?_⟩) hS2 ?_
        rotate_left
        · intro w hSw; obtain ⟨z1, _⟩ := hSw; go_simp; try with_reducible rfl
        (try simp only [Act.put, List.setIfInBounds_toArray, List.set_cons_zero, List.set_cons_succ])
        refine wpAnyH_ready (rs := [2]) (by kernel_rfl) (by simp) (AllReadyH.cons (o := { dst := some 94, op := Op.convert 22 9 (Operand.tmp 93), type := 9, pos := _, after := #[{ on := 1, ground := Ground.data }], guard := none }) rfl (fun K hK => ?_) AllReadyH.nil)
        go_simp
        refine hK.out _ _ hS2 (fun hHeld => ?_)
        clear hK K hHeld
        (try simp only [Act.put, List.setIfInBounds_toArray, List.set_cons_zero, List.set_cons_succ])
        refine wpAnyH_take (i := 9) (oi := { dst := some 101, op := Op.binOp BinOp.neq 9 (Operand.tmp 94) (Operand.tmp 100) 9, type := 4, pos := _, after := #[{ on := 2, ground := Ground.data }, { on := 8, ground := Ground.data }], guard := none }) (v := ?_) rfl (by kernel_rfl) (by kernel_rfl) (by kernel_rfl) (fun _ _ _ h => h) (Or.inl ⟨by rfl, ?_⟩) hS2 ?_
        rotate_left
        · intro w hSw; obtain ⟨z1, _⟩ := hSw; go_simp; try with_reducible rfl
        (try simp only [Act.put, List.setIfInBounds_toArray, List.set_cons_zero, List.set_cons_succ])
        refine wpAnyH_done (by kernel_rfl) ?_ _
        have hsc := hsd.later hdc
        have hs7c := hs7d.later hdc
        have hopc := hopd.turn (Turn.of_below (far g bo bn v) hdc) (fun i hi => .inl hi)
        have hbc := blater hbd (Nat.le_refl _) hdc
        clear hsd hs7d hopd hbd hS0 hS1 hS2 hrt hdb hdc hownb hrb hcx
        go_wp2_with fail
        go_loopw [13] (fun ix wr => ∃ i : Nat, i ≤ n ∧ ix = .int .i64 (i : Int) ∧ Below wc.heap.size wc wr) (fun ix _ => n - (intOf ix).toNat)
        case atStart => exact ⟨0, Nat.zero_le _, rfl, Below.refl _ _⟩
        case round =>
          obtain ⟨i, hi1, rfl, hd⟩ := hrel
          have hsw := hsc.later hd
          have hs7w := hs7c.later hd
          have hopw := hopc.turn (Turn.of_below (far g bo bn v) hd) (fun i hi => .inl hi)
          by_cases hlt : i < n
          · have hi1' : (0 : Int) ≤ (i : Int) := by omega
            have hi2' : (i : Int) < (n : Int) := by omega
            obtain ⟨ga, o, Ao, co, rfl, hfg, hgl, ho, c0, c1, c2, c3', hro, hAo⟩ := op_at hopw hlt
            have hoo := HOK.out o (List.mem_of_getElem? ho)
            have hol := hoo.len
            obtain ⟨kl, hkl⟩ : ∃ k, o.b.length = k := ⟨_, rfl⟩
            obtain ⟨kk, hkk⟩ : ∃ k, o.kind = k := ⟨_, rfl⟩
            obtain ⟨nm, hnm⟩ : ∃ k, o.name = k := ⟨_, rfl⟩
            obtain ⟨x, hx⟩ : ∃ x, S.key o.b = x := ⟨_, rfl⟩
            rw [hkl] at c1 hro hol
            rw [hkk] at c0
            rw [hnm] at c2
            have hkeep : i < syn → kk = 0 → ∃ c, S.get L7 x = some c := fun h1 h2 => by
              obtain ⟨c, hc⟩ := HREC.out.2.2.2.2.2 i o h1 ho (hkk.trans h2)
              exact ⟨c, by rw [← HL7.out, ← hx]; exact S.got_more HCK.out.2 hc⟩
            have HKL := Lib.hid hkl
            have HX := Lib.hid hx
            have HKEEP := Lib.hid hkeep
            clear hkl hkk hnm hx hkeep c3' ho hoo
            obtain ⟨wv, rfl⟩ : ∃ y, y = wr := ⟨_, rfl⟩
            go_wp2_with fail
            refine (key_any Ao kl co o.b x HX.out HKL.out (by omega) wv hro).mono ?_
            rintro e wk ⟨rfl, hdk⟩
            have hsk := hsw.later hdk
            have hs7k := hs7w.later hdk
            cases hgx : S.get L7 x with
            | none =>
              have HGX := Lib.hid hgx
              have hno : ¬ (i < syn ∧ kk = 0) := fun h => by obtain ⟨c, hc⟩ := HKEEP.out h.1 h.2; rw [hgx] at hc; cases hc
              clear hgx
              go_wp2_with fail
              refine (get_which w.heap.size g bo bn sy v L x _ hsk).mono ?_
              rintro e wg ⟨Ag, kg, cg, bg, rfl, hdg⟩
              have hdg := blater hdk (Nat.le_refl _) hdg
              go_wp2_with fail
              refine (get_none B g7 bo7 bn7 nr v7 L7 x HGX.out _ (hs7w.later hdg)).mono ?_
              rintro e wh ⟨Ah, ch, rfl, hdh⟩
              have hdh := blater hdg (Nat.le_refl _) hdh
              have e0 := (hdh.cell (p := ⟨ga, i * 4, none⟩) hgl).trans c0
              have e2 := (hdh.cell (p := ⟨ga, i * 4 + 2, none⟩) hgl).trans c2
              have hs7h := hs7w.later hdh
              have hdhh := blater hd (Nat.le_refl _) hdh
              clear hsk hs7k hdk hdg hdh hsw hs7w hopw hd c0 c1 c2 hro hAo
              by_cases hsn : i < syn
              · have hsn' : (i : Int) < (syn : Int) := by omega
                by_cases hk0 : kk = 0
                · exact absurd ⟨hsn, hk0⟩ hno
                · have hk0' : ((kk : Int) == 0) = false := by rw [beq_eq_false_iff_ne]; omega
                  go_wp2_with fail
                  cases hlk : S.look L7 nm with
                  | none =>
                    have HLK := Lib.hid (show (match S.look L7 nm with | some j => (j, true) | none => (0, false)) = ((0 : UInt64), false) by rw [hlk])
                    clear hlk
                    refine (lookup_any B g7 bo7 bn7 nr v7 L7 nm 0 false HLK.out _ hs7h).mono ?_
                    rintro e wz ⟨rfl, rfl⟩
                    go_wp2_with fail
                    go_roundw
                    case rel => exact ⟨i + 1, by omega, by go_num, hdhh⟩
                    case measure => simp [intOf]; omega
                  | some tk =>
                    have HLK := Lib.hid (show (match S.look L7 nm with | some j => (j, true) | none => (0, false)) = (tk, true) by rw [hlk])
                    obtain ⟨c9, hc9⟩ := S.bound_got _ L7 rfl (by rw [← HL7.out]; exact HG7.out) nm tk hlk
                    have HC9 := Lib.hid hc9
                    clear hlk hc9
                    refine (lookup_any B g7 bo7 bn7 nr v7 L7 nm tk true HLK.out _ hs7h).mono ?_
                    rintro e wz ⟨rfl, rfl⟩
                    go_wp2_with fail
                    refine (get_some B g7 bo7 bn7 nr c9.length v7 L7 tk c9 HC9.out rfl _ hs7h).mono ?_
                    rintro e wy ⟨Ay, cy, rfl, _, _, hdy⟩
                    go_wp2_with fail
                    go_roundw
                    case rel => exact ⟨i + 1, by omega, by go_num, blater hdhh (Nat.le_refl _) hdy⟩
                    case measure => simp [intOf]; omega
              · have hsn' : ¬ (i : Int) < (syn : Int) := by omega
                go_wp2_with fail
                cases hlk : S.look L7 nm with
                | none =>
                  have HLK := Lib.hid (show (match S.look L7 nm with | some j => (j, true) | none => (0, false)) = ((0 : UInt64), false) by rw [hlk])
                  clear hlk
                  refine (lookup_any B g7 bo7 bn7 nr v7 L7 nm 0 false HLK.out _ hs7h).mono ?_
                  rintro e wz ⟨rfl, rfl⟩
                  go_wp2_with fail
                  go_roundw
                  case rel => exact ⟨i + 1, by omega, by go_num, hdhh⟩
                  case measure => simp [intOf]; omega
                | some tk =>
                  have HLK := Lib.hid (show (match S.look L7 nm with | some j => (j, true) | none => (0, false)) = (tk, true) by rw [hlk])
                  obtain ⟨c9, hc9⟩ := S.bound_got _ L7 rfl (by rw [← HL7.out]; exact HG7.out) nm tk hlk
                  have HC9 := Lib.hid hc9
                  clear hlk hc9
                  refine (lookup_any B g7 bo7 bn7 nr v7 L7 nm tk true HLK.out _ hs7h).mono ?_
                  rintro e wz ⟨rfl, rfl⟩
                  go_wp2_with fail
                  refine (get_some B g7 bo7 bn7 nr c9.length v7 L7 tk c9 HC9.out rfl _ hs7h).mono ?_
                  rintro e wy ⟨Ay, cy, rfl, _, _, hdy⟩
                  go_wp2_with fail
                  go_roundw
                  case rel => exact ⟨i + 1, by omega, by go_num, blater hdhh (Nat.le_refl _) hdy⟩
                  case measure => simp [intOf]; omega
            | some c =>
              have HGX := Lib.hid hgx
              have HGL := Lib.hid (show S.get L x = some c from by rw [← HL7.out] at hgx; exact S.got_take hgx)
              obtain ⟨kc', hkc'⟩ : ∃ k, c.length = k := ⟨_, rfl⟩
              have HKC := Lib.hid hkc'
              clear hgx hkc'
              go_wp2_with fail
              refine (get_some w.heap.size g bo bn sy kc' v L x c HGL.out HKC.out _ hsk).mono ?_
              rintro e wg ⟨Ag, cg, rfl, _, howng, hdg⟩
              have hrg := Reads.of_own howng
              have hdg := blater hdk (Nat.le_refl _) hdg
              go_wp2_with fail
              refine (get_some B g7 bo7 bn7 nr kc' v7 L7 x c HGX.out HKC.out _ (hs7w.later hdg)).mono ?_
              rintro e wh ⟨Ah, ch, rfl, _, hownh, hdh⟩
              have m1 := conv_string wh Ah kc' ch c HKC.out (Reads.of_own hownh)
              have m2 := conv_string wh Ag kc' cg c HKC.out (hrg.later hdh)
              have hdh := blater hdg (Nat.le_refl _) hdh
              have e0 := (hdh.cell (p := ⟨ga, i * 4, none⟩) hgl).trans c0
              have e2 := (hdh.cell (p := ⟨ga, i * 4 + 2, none⟩) hgl).trans c2
              have hs7h := hs7w.later hdh
              have hdhh := blater hd (Nat.le_refl _) hdh
              clear hsk hs7k hdk hdg hdh hsw hs7w hopw hd c0 c1 c2 hro hAo
              by_cases hsn : i < syn
              · have hsn' : (i : Int) < (syn : Int) := by omega
                by_cases hk0 : kk = 0
                · have hk0' : ((kk : Int) == 0) = true := by rw [beq_iff_eq]; omega
                  go_wp2_with fail
                  cases hlk : S.look L7 nm with
                  | none =>
                    have HLK := Lib.hid (show (match S.look L7 nm with | some j => (j, true) | none => (0, false)) = ((0 : UInt64), false) by rw [hlk])
                    clear hlk
                    refine (lookup_any B g7 bo7 bn7 nr v7 L7 nm 0 false HLK.out _ hs7h).mono ?_
                    rintro e wz ⟨rfl, rfl⟩
                    go_wp2_with fail
                    go_roundw
                    case rel => exact ⟨i + 1, by omega, by go_num, hdhh⟩
                    case measure => simp [intOf]; omega
                  | some tk =>
                    have HLK := Lib.hid (show (match S.look L7 nm with | some j => (j, true) | none => (0, false)) = (tk, true) by rw [hlk])
                    obtain ⟨c9, hc9⟩ := S.bound_got _ L7 rfl (by rw [← HL7.out]; exact HG7.out) nm tk hlk
                    have HC9 := Lib.hid hc9
                    clear hlk hc9
                    refine (lookup_any B g7 bo7 bn7 nr v7 L7 nm tk true HLK.out _ hs7h).mono ?_
                    rintro e wz ⟨rfl, rfl⟩
                    go_wp2_with fail
                    refine (get_some B g7 bo7 bn7 nr c9.length v7 L7 tk c9 HC9.out rfl _ hs7h).mono ?_
                    rintro e wy ⟨Ay, cy, rfl, _, _, hdy⟩
                    go_wp2_with fail
                    go_roundw
                    case rel => exact ⟨i + 1, by omega, by go_num, blater hdhh (Nat.le_refl _) hdy⟩
                    case measure => simp [intOf]; omega
                · have hk0' : ((kk : Int) == 0) = false := by rw [beq_eq_false_iff_ne]; omega
                  go_wp2_with fail
                  cases hlk : S.look L7 nm with
                  | none =>
                    have HLK := Lib.hid (show (match S.look L7 nm with | some j => (j, true) | none => (0, false)) = ((0 : UInt64), false) by rw [hlk])
                    clear hlk
                    refine (lookup_any B g7 bo7 bn7 nr v7 L7 nm 0 false HLK.out _ hs7h).mono ?_
                    rintro e wz ⟨rfl, rfl⟩
                    go_wp2_with fail
                    go_roundw
                    case rel => exact ⟨i + 1, by omega, by go_num, hdhh⟩
                    case measure => simp [intOf]; omega
                  | some tk =>
                    have HLK := Lib.hid (show (match S.look L7 nm with | some j => (j, true) | none => (0, false)) = (tk, true) by rw [hlk])
                    obtain ⟨c9, hc9⟩ := S.bound_got _ L7 rfl (by rw [← HL7.out]; exact HG7.out) nm tk hlk
                    have HC9 := Lib.hid hc9
                    clear hlk hc9
                    refine (lookup_any B g7 bo7 bn7 nr v7 L7 nm tk true HLK.out _ hs7h).mono ?_
                    rintro e wz ⟨rfl, rfl⟩
                    go_wp2_with fail
                    refine (get_some B g7 bo7 bn7 nr c9.length v7 L7 tk c9 HC9.out rfl _ hs7h).mono ?_
                    rintro e wy ⟨Ay, cy, rfl, _, _, hdy⟩
                    go_wp2_with fail
                    go_roundw
                    case rel => exact ⟨i + 1, by omega, by go_num, blater hdhh (Nat.le_refl _) hdy⟩
                    case measure => simp [intOf]; omega
              · have hsn' : ¬ (i : Int) < (syn : Int) := by omega
                go_wp2_with fail
                cases hlk : S.look L7 nm with
                | none =>
                  have HLK := Lib.hid (show (match S.look L7 nm with | some j => (j, true) | none => (0, false)) = ((0 : UInt64), false) by rw [hlk])
                  clear hlk
                  refine (lookup_any B g7 bo7 bn7 nr v7 L7 nm 0 false HLK.out _ hs7h).mono ?_
                  rintro e wz ⟨rfl, rfl⟩
                  go_wp2_with fail
                  go_roundw
                  case rel => exact ⟨i + 1, by omega, by go_num, hdhh⟩
                  case measure => simp [intOf]; omega
                | some tk =>
                  have HLK := Lib.hid (show (match S.look L7 nm with | some j => (j, true) | none => (0, false)) = (tk, true) by rw [hlk])
                  obtain ⟨c9, hc9⟩ := S.bound_got _ L7 rfl (by rw [← HL7.out]; exact HG7.out) nm tk hlk
                  have HC9 := Lib.hid hc9
                  clear hlk hc9
                  refine (lookup_any B g7 bo7 bn7 nr v7 L7 nm tk true HLK.out _ hs7h).mono ?_
                  rintro e wz ⟨rfl, rfl⟩
                  go_wp2_with fail
                  refine (get_some B g7 bo7 bn7 nr c9.length v7 L7 tk c9 HC9.out rfl _ hs7h).mono ?_
                  rintro e wy ⟨Ay, cy, rfl, _, _, hdy⟩
                  go_wp2_with fail
                  go_roundw
                  case rel => exact ⟨i + 1, by omega, by go_num, blater hdhh (Nat.le_refl _) hdy⟩
                  case measure => simp [intOf]; omega
          · have hi2' : (n : Int) ≤ (i : Int) := by omega
            have hbz := blater hbc (Nat.le_refl _) hd
            go_wp2_with fail
            refine (lives_any _).mono ?_
            rintro e wl ⟨rfl, hdl⟩
            go_wp2_with fail
            go_ret
            exact ⟨rfl, blater hbz (Nat.le_refl _) hdl⟩
end Go.Proofs.Ytfanhbemmjcomaa
