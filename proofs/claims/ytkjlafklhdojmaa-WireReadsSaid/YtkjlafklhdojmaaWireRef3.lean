/- The reference's Encode. -/
import Derived.Test.YtkjlafklhdojmaaWireRef2
import Derived.Test.YtkjlafklhdojmaaWireLawsR
namespace Go.Proofs.Ytkjlafklhdojmaa
open Go.RowKit
set_option linter.unusedVariables false

set_option maxRecDepth 10000 in
set_option maxHeartbeats 4000000 in
theorem refEncode_any (base m N n c : Nat) (A : Option Addr) (vs : List Vl) (hN : vs.length = N) (hn : n ≤ N) (hn2 : N ≤ 20) (hok : ∀ x ∈ vs, VOk m x) (hm : m ≤ 1000) (w : World) (h : ValsAt w base (.slice A N c) vs) :
    Calls Try.prog 17 #[.slice A n c] w fun e w' => ∃ v, e = .returned v ∧ w'.ownsRow w.heap.size 5 1 v (V.encVs (vs.take n)).length (bv (V.encVs (vs.take n))) ∧ Below w.heap.size w w' := by
  obtain ⟨i0, hi, hz0, hz1, hz2⟩ := info_parts infoByte
  have HN := Lib.hid hN
  have HOK := Lib.hid hok
  clear hN hok
  go_enter Try.func17, Try.ntmps17
  go_wp2_with fail
  go_loopw [3, 4] (fun v ix wr => ∃ i : Nat, i ≤ n ∧ ix = .int .i64 (i : Int) ∧ wr.ownsRow w.heap.size 5 1 v (V.encVs (vs.take i)).length (bv (V.encVs (vs.take i))) ∧ Below w.heap.size w wr) (fun _ ix _ => n - (intOf ix).toNat)
  case atStart => exact ⟨0, Nat.zero_le _, rfl, World.ownsRow_nil _ _ _ _, Below.refl _ _⟩
  case round =>
    obtain ⟨i, hin, rfl, hok, hb⟩ := hrel
    by_cases hlt : i < n
    · obtain ⟨g, x, B, d, B', d', rfl, _, hgl, hx, c0, c1, c2, c3, c4, r1, r2⟩ := val_at h (k := i) (by rw [HN.out]; omega)
      have f0 := (hb.cell (p := ⟨g, i * 5, none⟩) hgl).trans c0
      have f1 := (hb.cell (p := ⟨g, i * 5 + 1, none⟩) hgl).trans c1
      have f2 := (hb.cell (p := ⟨g, i * 5 + 2, none⟩) hgl).trans c2
      have f3 := (hb.cell (p := ⟨g, i * 5 + 3, none⟩) hgl).trans c3
      have f4 := (hb.cell (p := ⟨g, i * 5 + 4, none⟩) hgl).trans c4
      have q1 := r1.later hb
      have q2 := r2.later hb
      clear c0 c1 c2 c3 c4 r1 r2
      have hxok := HOK.out x (List.mem_of_getElem? hx)
      have hlen : (V.encVs (vs.take i)).length ≤ 1000000 := by
        have h1 := V.encVs_len (m := m) (vs := vs.take i) (fun y hy => HOK.out y (List.mem_of_mem_take hy))
        have h2 : (vs.take i).length ≤ 20 := by rw [List.length_take]; omega
        have h3 : (vs.take i).length * (10 + 10 * m) ≤ 20 * (10 + 10 * 1000) := Nat.mul_le_mul h2 (by omega)
        omega
      have hFl := V.encV_len hxok
      have HST := Lib.hid (show V.encVs (vs.take (i + 1)) = V.encVs (vs.take i) ++ V.encV x by rw [List.take_add_one, hx]; simp [V.encVs])
      obtain ⟨Av, kv, cv, rfl, hcv, hkv, hownv, _⟩ := own_out hok
      have hkv' : kv ≤ 1000000 := by omega
      have HKV := Lib.hid hkv
      obtain ⟨P, hP⟩ : ∃ P, V.encVs (vs.take i) = P := ⟨_, rfl⟩
      rw [hP] at hownv HKV HST
      have hi1 : (0 : Int) ≤ (i : Int) := by omega
      have hi2 : (i : Int) < (n : Int) := by omega
      obtain ⟨xk, xu, xn, xb, xl⟩ := x
      simp only at f0 f1 f2 f3 f4 q1 q2
      obtain ⟨lb, hlb⟩ : ∃ k, xb.length = k := ⟨_, rfl⟩
      obtain ⟨ll, hll⟩ : ∃ k, xl.length = k := ⟨_, rfl⟩
      rw [hlb] at f3 q1
      rw [hll] at f4 q2
      have HLB := Lib.hid hlb
      have HLL := Lib.hid hll
      clear hkv hok hP hlen hx
      rcases hxok with ⟨h1, h2, h3, h4⟩ | ⟨h1, h2, h3, h4, h5⟩ | ⟨h1, h2, h3, h4, h5⟩ | ⟨h1, h2, h3, h4, h5, h6⟩
      · have h1 : xk = 0 := h1
        subst h1
        skip
        obtain ⟨F, hF⟩ : ∃ F, V.enc xu = F := ⟨_, rfl⟩
        have hci := fun (W : World) (hW : Below wr.heap.size wr W) => refUint_any xu W
        simp only [hF] at hci
        have hFe : V.encV ⟨0, xu, xn, xb, xl⟩ = F := by rw [← hF]; rfl
        rw [hFe] at hFl HST
        clear hF hFe hlb hll h2 h3 h4
        go_wp2_with fail
        refine (hci _ (Below.refl _ _)).mono ?_
        rintro e w2 ⟨v2, rfl, hown2, hb2⟩
        clear hci
        obtain ⟨A2, k2, c2', rfl, hc2, hk2, hown2b, hr2⟩ := own_out hown2
        have HK2 := Lib.hid hk2
        have hk2' : k2 ≤ 20000 := by omega
        have hone := bv_one F
        have hownv2 := own_below hownv hb2
        have hsz2 := Nat.le_trans hb.size hb2.size
        clear hk2 hown2 hFl
        go_wp2_with (at_builtin; refine wpList_append_any _ rfl _ _ 24 rfl w.heap.size 5 i0 (.int .u8 0) 1 1 Try.underlying24 hi hz0 hz1 hz2 rfl (by decide) _ _ _ rfl hownv2 w2.heap.size A2 k2 c2' (bv F) rfl hr2 hone (by unfold maxLen; omega) (by omega) (by omega) ?_; intro v' w3 hown' hgrow hat)
        go_roundw
        case rel =>
          refine ⟨i + 1, by omega, by go_num, ?_, (blater hb (Nat.le_refl _) hb2).grown hgrow hsz2 (fun k e => (own_from hownv2 k e).1)⟩
          rw [HST.out]
          exact own_app (by rw [HKV.out]; exact hown') HK2.out
        case measure => simp [intOf]; omega
      · have h1 : xk = 1 := h1
        subst h1
        have h3 : inr xn := h3
        obtain ⟨F, hF⟩ : ∃ F, V.enc (V.zz xn) = F := ⟨_, rfl⟩
        have hci := fun (W : World) (hW : Below wr.heap.size wr W) => refInt_any xn h3.1 h3.2 W
        simp only [hF] at hci
        have hFe : V.encV ⟨1, xu, xn, xb, xl⟩ = F := by rw [← hF]; rfl
        rw [hFe] at hFl HST
        clear hF hFe hlb hll h2 h3 h4 h5
        go_wp2_with fail
        refine (hci _ (Below.refl _ _)).mono ?_
        rintro e w2 ⟨v2, rfl, hown2, hb2⟩
        clear hci
        obtain ⟨A2, k2, c2', rfl, hc2, hk2, hown2b, hr2⟩ := own_out hown2
        have HK2 := Lib.hid hk2
        have hk2' : k2 ≤ 20000 := by omega
        have hone := bv_one F
        have hownv2 := own_below hownv hb2
        have hsz2 := Nat.le_trans hb.size hb2.size
        clear hk2 hown2 hFl
        go_wp2_with (at_builtin; refine wpList_append_any _ rfl _ _ 24 rfl w.heap.size 5 i0 (.int .u8 0) 1 1 Try.underlying24 hi hz0 hz1 hz2 rfl (by decide) _ _ _ rfl hownv2 w2.heap.size A2 k2 c2' (bv F) rfl hr2 hone (by unfold maxLen; omega) (by omega) (by omega) ?_; intro v' w3 hown' hgrow hat)
        go_roundw
        case rel =>
          refine ⟨i + 1, by omega, by go_num, ?_, (blater hb (Nat.le_refl _) hb2).grown hgrow hsz2 (fun k e => (own_from hownv2 k e).1)⟩
          rw [HST.out]
          exact own_app (by rw [HKV.out]; exact hown') HK2.out
        case measure => simp [intOf]; omega
      · have h1 : xk = 2 := h1
        subst h1
        have h4 : xb.length ≤ m := h4
        rw [hlb] at h4
        obtain ⟨F, hF⟩ : ∃ F, V.enc (UInt64.ofNat lb) ++ xb = F := ⟨_, rfl⟩
        have hci := fun (W : World) (hW : Below wr.heap.size wr W) => refBytes_any B lb d xb HLB.out (by omega) W (q1.later hW)
        simp only [hF] at hci
        have hFe : V.encV ⟨2, xu, xn, xb, xl⟩ = F := by rw [← hF]; show V.enc (UInt64.ofNat xb.length) ++ xb = _; rw [HLB.out]
        rw [hFe] at hFl HST
        clear hF hFe hlb hll h2 h3 h5
        go_wp2_with fail
        refine (hci _ (Below.refl _ _)).mono ?_
        rintro e w2 ⟨v2, rfl, hown2, hb2⟩
        clear hci
        obtain ⟨A2, k2, c2', rfl, hc2, hk2, hown2b, hr2⟩ := own_out hown2
        have HK2 := Lib.hid hk2
        have hk2' : k2 ≤ 20000 := by omega
        have hone := bv_one F
        have hownv2 := own_below hownv hb2
        have hsz2 := Nat.le_trans hb.size hb2.size
        clear hk2 hown2 hFl
        go_wp2_with (at_builtin; refine wpList_append_any _ rfl _ _ 24 rfl w.heap.size 5 i0 (.int .u8 0) 1 1 Try.underlying24 hi hz0 hz1 hz2 rfl (by decide) _ _ _ rfl hownv2 w2.heap.size A2 k2 c2' (bv F) rfl hr2 hone (by unfold maxLen; omega) (by omega) (by omega) ?_; intro v' w3 hown' hgrow hat)
        go_roundw
        case rel =>
          refine ⟨i + 1, by omega, by go_num, ?_, (blater hb (Nat.le_refl _) hb2).grown hgrow hsz2 (fun k e => (own_from hownv2 k e).1)⟩
          rw [HST.out]
          exact own_app (by rw [HKV.out]; exact hown') HK2.out
        case measure => simp [intOf]; omega
      · have h1 : xk = 3 := h1
        subst h1
        have h5 : xl.length ≤ m := h5
        have h6 : ∀ n ∈ xl, inr n := h6
        rw [hll] at h5
        obtain ⟨F, hF⟩ : ∃ F, V.enc (UInt64.ofNat ll) ++ V.encI xl = F := ⟨_, rfl⟩
        have hci := fun (W : World) (hW : Below wr.heap.size wr W) => refInts_any B' ll d' xl HLL.out h6 (by omega) W (q2.later hW)
        simp only [hF] at hci
        have hFe : V.encV ⟨3, xu, xn, xb, xl⟩ = F := by rw [← hF]; show V.enc (UInt64.ofNat xl.length) ++ V.encI xl = _; rw [HLL.out]
        rw [hFe] at hFl HST
        clear hF hFe hlb hll h2 h3 h4 h6
        go_wp2_with fail
        refine (hci _ (Below.refl _ _)).mono ?_
        rintro e w2 ⟨v2, rfl, hown2, hb2⟩
        clear hci
        obtain ⟨A2, k2, c2', rfl, hc2, hk2, hown2b, hr2⟩ := own_out hown2
        have HK2 := Lib.hid hk2
        have hk2' : k2 ≤ 20000 := by omega
        have hone := bv_one F
        have hownv2 := own_below hownv hb2
        have hsz2 := Nat.le_trans hb.size hb2.size
        clear hk2 hown2 hFl
        go_wp2_with (at_builtin; refine wpList_append_any _ rfl _ _ 24 rfl w.heap.size 5 i0 (.int .u8 0) 1 1 Try.underlying24 hi hz0 hz1 hz2 rfl (by decide) _ _ _ rfl hownv2 w2.heap.size A2 k2 c2' (bv F) rfl hr2 hone (by unfold maxLen; omega) (by omega) (by omega) ?_; intro v' w3 hown' hgrow hat)
        go_roundw
        case rel =>
          refine ⟨i + 1, by omega, by go_num, ?_, (blater hb (Nat.le_refl _) hb2).grown hgrow hsz2 (fun k e => (own_from hownv2 k e).1)⟩
          rw [HST.out]
          exact own_app (by rw [HKV.out]; exact hown') HK2.out
        case measure => simp [intOf]; omega
    · have hin2 : i = n := by omega
      subst hin2
      go_wp2_with fail
      go_ret
      exact ⟨_, rfl, hok, hb⟩
end Go.Proofs.Ytkjlafklhdojmaa
