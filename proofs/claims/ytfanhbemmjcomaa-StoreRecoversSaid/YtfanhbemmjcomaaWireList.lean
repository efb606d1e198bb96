/- The reader: list[byte], list[int], Bytes, Ints. -/
import Derived.Test.YtfanhbemmjcomaaWireIn2
import Derived.Test.YtfanhbemmjcomaaWirePlain2
import Derived.Deep.CutRange
namespace Go.Proofs.Ytfanhbemmjcomaa
open Go.RowKit
set_option linter.unusedVariables false

theorem only_row {a b c : World} {g : Nat} {row : Option Nat} (h : a.grownBy b (some g)) (k : b.grownBy c row) (hr : ∀ i, row = some i → a.heap.size ≤ i) : a.grownBy c (some g) :=
  ⟨k.os.trans h.os, k.tape.trans h.tape, k.output.trans h.output, Nat.le_trans h.size k.size, fun i hi hne => (k.block i (Nat.lt_of_lt_of_le hi h.size) (fun e => by have := hr i e.symm; omega)).trans (h.block i hi hne)⟩
theorem own_from {W : World} {base : Nat} {e : TypeId} {size n : Nat} {v : Value} {xs : List Value} (h : W.ownsRow base e size v n xs) : ∀ k, v.ownBlock = some k → base ≤ k ∧ k < W.heap.size := by
  intro k hk
  rcases h.2 with ⟨rfl, _⟩ | ⟨g', cap, cur, rfl, hb, hh, _⟩
  · simp [Value.ownBlock] at hk
  · obtain rfl : g' = k := by simpa [Value.ownBlock] using hk
    exact ⟨hb, (Array.getElem?_eq_some_iff.1 hh).1⟩
theorem own_only {W W' : World} {g base : Nat} {e : TypeId} {size n : Nat} {v : Value} {xs : List Value} (h : W.ownsRow base e size v n xs) (hg : W.grownBy W' (some g)) (hgb : g < base) : W'.ownsRow base e size v n xs := by
  refine h.kept hg ?_
  rcases hv : v.ownBlock with _ | k
  · exact .inl rfl
  · have := own_from h k hv
    exact .inr (by intro e; injection e with e; omega)

set_option maxRecDepth 10000 in
set_option maxHeartbeats 2000000 in
theorem listByte_any (g : Nat) (most : Int) (hm1 : -9223372036854775808 ≤ most) (hm2 : most ≤ 9223372036854775807) (s : V.St) (hsl : s.1.length ≤ 1000000) (w : World) (h : InAt 113 w g s) :
    Calls Try.prog 72 #[.pointer (some ⟨g, 0, none⟩), .int .i64 most, .func (.func 70) #[.pointer (some ⟨g, 0, none⟩)] #[]] w fun e w' =>
      ∃ v, e = .returned v ∧ w'.ownsRow w.heap.size 5 1 v (V.rdList V.next most s).1.length (bv (V.rdList V.next most s).1) ∧ InAt 113 w' g (V.rdList V.next most s).2 ∧ w.grownBy w' (some g) := by
  obtain ⟨i0, hi, hz0, hz1, hz2⟩ := info_parts infoByte
  have hL1 := V.lim_le s most
  have HRL : Hid (∃ R, V.rdN V.next (V.rdUint s).1.toNat (V.lim s most) = R ∧ V.rdList V.next most s = if R.2.2 = 0 then R else ([], R.2)) := ⟨_, rfl, rfl⟩
  have HLIM : Hid (V.lim s most = if most < 0 ∨ most < ((V.rdUint s).1.toNat : Int) then V.fail (V.rdUint s).2 2 else (V.rdUint s).2) := rfl
  have hglt := h.lt
  have hun := inUint_any g s w h
  obtain ⟨RL, hRL⟩ : ∃ RL, V.rdList V.next most s = RL := ⟨_, rfl⟩
  obtain ⟨L, hL⟩ : ∃ L, V.lim s most = L := ⟨_, rfl⟩
  obtain ⟨U, hU⟩ : ∃ U, V.rdUint s = U := ⟨_, rfl⟩
  rw [hRL, hL, hU] at HRL
  rw [hL, hU] at HLIM
  rw [hL] at hL1
  rw [hU] at hun
  rw [hRL]
  clear hRL hL hU
  obtain ⟨n, r⟩ := U
  have hn := n.toNat_lt
  obtain ⟨nn, hnn⟩ : ∃ nn, n.toNat = nn := ⟨_, rfl⟩
  simp only [hnn] at HRL HLIM hun
  rw [hnn] at hn
  have HN := Lib.hid hn
  clear hnn hn
  go_enter Try.func72, Try.ntmps72
  go_wp2_with fail
  refine hun.mono ?_
  rintro e w1 ⟨rfl, hin1, hg1⟩
  clear hun h
  go_upto_region 2 with (fail)
  go_cut [20] from 12 to 20 (fun b wr => b = .bool (decide (most < 0 ∨ most < (nn : Int))) ∧ wr = w1)
  case first =>
    have hNN := HN.out
    by_cases hneg : most < 0
    · have HD := Lib.hid (decide_eq_true (p := most < 0 ∨ most < (nn : Int)) (.inl hneg))
      go_wp2_with fail
      go_meet
      exact ⟨by rw [HD.out], rfl⟩
    · by_cases hlt : most < (nn : Int)
      · have HD := Lib.hid (decide_eq_true (p := most < 0 ∨ most < (nn : Int)) (.inr hlt))
        go_wp2_with fail
        go_meet
        exact ⟨by rw [HD.out], rfl⟩
      · have HD := Lib.hid (decide_eq_false (p := most < 0 ∨ most < (nn : Int)) (by omega))
        go_wp2_with fail
        go_meet
        exact ⟨by rw [HD.out], rfl⟩
  case rest =>
    obtain ⟨bb, hbb⟩ : ∃ bb, decide (most < 0 ∨ most < (nn : Int)) = bb := ⟨_, rfl⟩
    rw [hbb] at hcut
    obtain ⟨rfl, rfl⟩ := hcut
    have HBB := Lib.hid hbb
    clear hbb
    go_upto_if 20 with (fail)
    go_cut [] from 21 to 22 (fun wr => InAt 113 wr g L ∧ w.grownBy wr (some g))
    case first =>
      have hlm := HLIM.out
      cases bb with
      | true =>
        rw [if_pos (of_decide_eq_true HBB.out)] at hlm
        subst hlm
        go_wp2_with fail
        refine (inFail_any g r 2 _ hin1).mono ?_
        rintro e w2 ⟨rfl, hin2, hg2⟩
        go_wp2_with fail
        go_meet
        exact ⟨hin2, only_trans hg1 hg2⟩
      | false =>
        rw [if_neg (of_decide_eq_false HBB.out)] at hlm
        subst hlm
        go_wp2_with fail
        go_meet
        exact ⟨hin1, hg1⟩
    case rest =>
      rename_i w2
      obtain ⟨hin2, hg2⟩ := hcut
      clear hin1 hg1 HLIM
      obtain ⟨R, hR, hRL⟩ := HRL.out
      have HRL := Lib.hid hRL
      have HR := Lib.hid hR
      clear hRL hR
      go_wp2_with fail
      go_loopw [8, 9] (fun v ix wr => ∃ (i : Nat) (l : List UInt8) (r' : V.St), ix = .int .u64 (i : Int) ∧ wr.ownsRow w.heap.size 5 1 v i (bv l) ∧ InAt 113 wr g r' ∧ w.grownBy wr (some g) ∧
          Hid (i ≤ nn ∧ i + r'.1.length ≤ L.1.length + (if r'.2 = 0 then 0 else 1) ∧ (l ++ (V.rdN V.next (nn - i) r').1, (V.rdN V.next (nn - i) r').2) = R))
        (fun _ ix _ => L.1.length + 2 - (intOf ix).toNat)
      case atStart =>
        refine ⟨0, [], L, rfl, World.ownsRow_nil _ _ _ _, hin2, hg2, ?_, ?_, ?_⟩
        · exact Nat.zero_le _
        · omega
        · rw [Nat.sub_zero, HR.out]; rfl
      case round =>
        obtain ⟨i, l, ⟨bs, e⟩, rfl, hown, hin3, hg3, hst⟩ := hrel
        obtain ⟨A, c, h1, h2, h3, h4⟩ := id hin3
        have hc1 := h1.cell1
        have hf1 := h1.frozen1
        clear h1 h2 h3 h4
        have hNN := HN.out
        obtain ⟨hst1, hst2, hst3⟩ := hst.out
        by_cases hlt : i < nn
        · by_cases he : e = 0
          · subst he
            rw [if_pos rfl] at hst2
            have htk := V.next_takes (bs, 0) rfl
            have hrd := V.rdN_round V.next hlt rfl hst3
            have hnx := next_any g _ wr hin3
            obtain ⟨⟨x, r3⟩, hxr⟩ : ∃ xr, V.next (bs, 0) = xr := ⟨_, rfl⟩
            rw [hxr] at htk hrd hnx
            have HT := Lib.hid htk
            have HS := Lib.hid hst2
            have HQ := Lib.hid hrd
            clear htk hst2 hrd hst3 hxr hst
            go_wp2_with fail
            refine hnx.mono ?_
            rintro e w3 ⟨rfl, hin4, hg4⟩
            have hown3 := own_only hown hg4 hglt
            have hil : i ≤ 1000001 := by have := HS.out; have := hL1; omega
            have hsz : w.heap.size ≤ w3.heap.size := Nat.le_trans hg3.size hg4.size
            clear hnx hc1 hf1
            go_wp2_with (at_builtin; refine wpList_append_any _ rfl _ _ 22 rfl w.heap.size 5 i0 (.int .u8 0) 1 1 Try.underlying22 hi hz0 hz1 hz2 rfl (by decide) _ _ _ rfl (hown3.alloc _) _ _ 1 1 [.int .u8 (x.toNat : Int)] rfl (Reads.new w3 [.int .u8 (x.toNat : Int)] 5 1 rfl) (by simp [Value.oneCell']) (by unfold maxLen; omega) (by omega) (by simp; omega) ?_; intro v' w4 hown' hgrow hat)
            go_roundw
            case rel =>
              have hg5 := only_row (only_alloc (only_trans hg3 hg4) _) hgrow (fun k hk => (own_from hown3 k hk).1)
              refine ⟨i + 1, l ++ [x], r3, by go_num, by rw [← bv_snoc]; exact hown', (hin4.below (Below.alloc (Below.refl _ _) (Nat.le_refl _) _)).kept hgrow (fun k hk => by have := (own_from hown3 k hk).1; omega), hg5, by omega, ?_, HQ.out⟩
              have h1 := HT.out
              have h2 := HS.out
              have h1 : r3.1.length + 1 ≤ bs.length ∨ (r3.2 ≠ 0 ∧ r3.1.length ≤ bs.length) := h1
              have h2 : i + bs.length ≤ L.1.length + 0 := h2
              rcases h1 with h1 | ⟨h1, h3⟩
              · split <;> omega
              · rw [if_neg h1]; omega
            case measure => have h2 : i + bs.length ≤ L.1.length + 0 := HS.out; simp [intOf]; omega
          · have hR : (l, (bs, e)) = R := by rw [← hst3, V.rdN_stop V.next _ he]; simp
            have HQ := Lib.hid hR
            clear hst2 hst3 hst hR
            go_wp2_with fail
            go_ret
            have hRL := HRL.out
            rw [← HQ.out, if_neg he] at hRL
            subst hRL
            exact ⟨_, rfl, World.ownsRow_nil _ _ _ _, hin3, hg3⟩
        · have hR : (l, (bs, e)) = R := by rw [← hst3, show nn - i = 0 from by omega]; simp [V.rdN]
          have HQ := Lib.hid hR
          have hil : i = l.length := by have := hown.1; simp [bv] at this; omega
          clear hst2 hst3 hst hR
          by_cases he : e = 0
          · subst he
            clear hil
            go_wp2_with fail
            go_ret
            have hil : i = l.length := by have := hown.1; simp [bv] at this; omega
            have hRL := HRL.out
            rw [← HQ.out, if_pos rfl] at hRL
            subst hRL hil
            exact ⟨_, rfl, hown, hin3, hg3⟩
          · clear hil
            go_wp2_with fail
            go_ret
            have hRL := HRL.out
            rw [← HQ.out, if_neg he] at hRL
            subst hRL
            exact ⟨_, rfl, World.ownsRow_nil _ _ _ _, hin3, hg3⟩


set_option maxHeartbeats 400000 in
theorem inBytes_any (g : Nat) (most : Int) (hm1 : -9223372036854775808 ≤ most) (hm2 : most ≤ 9223372036854775807) (s : V.St) (hsl : s.1.length ≤ 1000000) (w : World) (h : InAt 113 w g s) :
    Calls Try.prog 62 #[.pointer (some ⟨g, 0, none⟩), .int .i64 most] w fun e w' =>
      ∃ v, e = .returned v ∧ w'.ownsRow w.heap.size 5 1 v (V.rdList V.next most s).1.length (bv (V.rdList V.next most s).1) ∧ InAt 113 w' g (V.rdList V.next most s).2 ∧ w.grownBy w' (some g) := by
  have hmf : ∀ (fn : Fn) (first cap : Array Value) (w : World), (Instr.makeFunc fn first cap).run Try.prog w = .ok (.func fn first cap) w := fun _ _ _ _ => rfl
  have hl := listByte_any g most hm1 hm2 s hsl w h
  go_enter Try.func62, Try.ntmps62
  go_wp2_with fail
  refine hl.mono ?_
  rintro e w1 ⟨v, rfl, hown, hin, hg⟩
  clear hl
  go_wp2_with fail
  go_ret
  exact ⟨v, rfl, hown, hin, hg⟩

end Go.Proofs.Ytfanhbemmjcomaa
