/- The law WireSticky, walked. -/
import Derived.Test.YtkjlafklhdojmaaWireSame
namespace Go.Proofs.Ytkjlafklhdojmaa
open Go.RowKit
set_option linter.unusedVariables false

theorem V.rdUint_err {s : V.St} (h : s.2 ≠ 0) : V.rdUint s = (0, s) := by unfold V.rdUint; rw [if_neg h]
theorem V.rdInt_err {s : V.St} (h : s.2 ≠ 0) : V.rdInt s = (0, s) := by unfold V.rdInt; rw [V.rdUint_err h]; show (V.uz 0, s) = _; rw [show V.uz 0 = 0 from by decide]
theorem V.fail_err {s : V.St} (h : s.2 ≠ 0) (x : Int) : V.fail s x = s := by unfold V.fail; rw [if_neg h]
theorem V.rdList_err {α : Type} (f : V.St → α × V.St) (most : Int) {s : V.St} (h : s.2 ≠ 0) : V.rdList f most s = ([], s) := by
  have h1 : V.lim s most = s := by
    unfold V.lim
    rw [V.rdUint_err h]
    show (if _ then V.fail s 2 else s) = s
    rw [V.fail_err h]; simp
  unfold V.rdList
  rw [h1, V.rdN_stop f _ h, if_neg h]
theorem V.read_err (kind most : Int) {s : V.St} (h : s.2 ≠ 0) : V.read kind most s = (⟨kind, 0, 0, [], []⟩, s) := by
  unfold V.read
  rw [V.rdUint_err h, V.rdInt_err h, V.rdList_err _ most h, V.rdList_err _ most h]
  split
  · rfl
  · split
    · rfl
    · split <;> rfl
theorem V.fin_err {s : V.St} (h : s.2 ≠ 0) : V.fin s = s.2 := by unfold V.fin; rw [if_neg (fun h' => h h'.1)]
theorem read_val (x : Vl) (s' : V.St) (g : Nat) (kind most : Int) (hm1 : -9223372036854775808 ≤ most) (hm2 : most ≤ 9223372036854775807) (s : V.St) (hx : V.read kind most s = (x, s')) (hsl : s.1.length ≤ 1000000) (w : World) (h : InAt 75 w g s) :
    Calls Try.prog 22 #[.pointer (some ⟨g, 0, none⟩), .int .i64 kind, .int .i64 most] w fun e w' =>
      ∃ v, e = .returned v ∧ IsVal w' w'.heap.size v x ∧ InAt 75 w' g s' ∧ w.grownBy w' (some g) := by
  have := read_any g kind most hm1 hm2 s hsl w h
  rw [hx] at this
  exact this
theorem inErr_val (x : Int) (g : Nat) (s : V.St) (hx : s.2 = x) (w : World) (h : InAt 75 w g s) :
    Calls Try.prog 24 #[.pointer (some ⟨g, 0, none⟩)] w fun e w' => e = .returned (.int .i64 x) ∧ w = w' := by
  subst hx; exact inErr_any g s w h
theorem inFail_val (s' : V.St) (g : Nat) (s : V.St) (x : Int) (hx : V.fail s x = s') (w : World) (h : InAt 75 w g s) :
    Calls Try.prog 27 #[.pointer (some ⟨g, 0, none⟩), .int .i64 x] w fun e w' => e = .returned (.tuple #[]) ∧ InAt 75 w' g s' ∧ w.grownBy w' (some g) := by
  subst hx; exact inFail_any g s x w h

set_option maxHeartbeats 2000000 in
theorem wireSticky_walk (a : Option Addr) (len cap : Nat) (zs : List Int) (first second : Int) (a2 : Option Addr) (len2 cap2 : Nat) (zs2 : List Int) (w : World) (hr : IsRow .u8 w a len cap zs) (hf : (Lit.int .i64 first).wf = true) (hs : (Lit.int .i64 second).wf = true) (hr2 : IsRow .i64 w a2 len2 cap2 zs2) :
    Calls Try.prog 5 #[.slice a len cap, .int .i64 first, .int .i64 second, .slice a2 len2 cap2] w fun e W' => e = .returned (.bool true) ∧ Below w.heap.size w W' := by
  obtain ⟨raw, hrl, hlc, hcm, hrd⟩ := isRow_bytes hr
  obtain ⟨ks, hkl, hlc2, hcm2, hrd2, hwf2⟩ := isRow_ints hr2
  have hf := wf_bd hf
  have hs := wf_bd hs
  obtain ⟨k60, h60⟩ : ∃ k, (raw.take 60).length = k := ⟨_, rfl⟩
  have h60' : k60 ≤ 60 := by rw [← h60, List.length_take]; omega
  have hfew := few_reads a len cap 60 raw k60 hrl hlc hcm (by omega) h60 w hrd
  obtain ⟨bs, hbs⟩ : ∃ bs, raw.take 60 = bs := ⟨_, rfl⟩
  rw [hbs] at hfew h60
  have HBL := Lib.hid h60
  have ha1 := arN_bd first 42 (by omega)
  have ha2 := arN_bd second 42 (by omega)
  have hc1 := fun W => around_any first 42 hf.1 hf.2 (by omega) (by omega) W
  have hc2 := fun W => around_any second 42 hs.1 hs.2 (by omega) (by omega) W
  obtain ⟨e1, he1⟩ : ∃ e1, arN first 42 = e1 := ⟨_, rfl⟩
  obtain ⟨e2, he2⟩ : ∃ e2, arN second 42 = e2 := ⟨_, rfl⟩
  simp only [he1] at ha1 hc1
  simp only [he2] at ha2 hc2
  have hw1 : RowKit.wrap64 (1 + e1) = 1 + e1 := by unfold RowKit.wrap64; omega
  have hw2 : RowKit.wrap64 (1 + e2) = 1 + e2 := by unfold RowKit.wrap64; omega
  have HN0 := Lib.hid (show (1 + e1 : Int) ≠ 0 by omega)
  have HKL := Lib.hid hkl
  have HWF := Lib.hid hwf2
  have HRD2 := Lib.hid hrd2
  clear he1 he2 h60 hbs hrl hcm hlc hrd hr hr2 hkl hwf2 hf hs
  go_enter Try.func5, Try.ntmps5
  go_wp2_with fail
  refine hfew.mono ?_
  rintro e w1 ⟨A1, c1, rfl, hc, hown1, hb1⟩
  clear hfew
  go_wp2_with fail
  refine (newIn_any A1 k60 c1 bs HBL.out (by omega) _ (Reads.of_own hown1)).mono ?_
  rintro e w2 ⟨g, rfl, hg, hin2, hd⟩
  have hb2 := blater hb1 (Nat.le_refl _) hd
  have hgw : w.heap.size ≤ g := by have := hb1.size; omega
  clear hd hown1 hb1
  go_wp2_with fail
  refine (inFail_val (bs, 0) g (bs, 0) 0 (by simp [V.fail]) _ hin2).mono ?_
  rintro e w3 ⟨rfl, hin3, hg3⟩
  have hb3 := only_new hb2 hg3 hb2.size hgw
  clear hb2 hg3 hin2
  go_wp2_with fail
  refine (inErr_val 0 g (bs, 0) rfl _ hin3).mono ?_
  rintro e w4 ⟨rfl, rfl⟩
  go_wp2_with fail
  refine (hc1 _).mono ?_
  rintro e w4 ⟨rfl, rfl⟩
  clear hc1
  go_wp2_with fail
  refine (inFail_val (bs, 1 + e1) g (bs, 0) (1 + e1) (by simp [V.fail]) _ hin3).mono ?_
  rintro e w4 ⟨rfl, hin4, hg4⟩
  have hb4 := only_new hb3 hg4 hb3.size hgw
  clear hb3 hg4 hin3
  go_wp2_with fail
  refine (hc2 _).mono ?_
  rintro e w5 ⟨rfl, rfl⟩
  clear hc2
  go_wp2_with fail
  refine (inFail_val (bs, 1 + e1) g (bs, 1 + e1) (1 + e2) (V.fail_err HN0.out _) _ hin4).mono ?_
  rintro e w5 ⟨rfl, hin5, hg5⟩
  have hb5 := only_new hb4 hg5 hb4.size hgw
  clear hb4 hg5 hin4
  obtain ⟨er, her⟩ : ∃ er, 1 + e1 = er := ⟨_, rfl⟩
  rw [her] at hin5 HN0 hw1 ⊢
  clear her hw1 hw2
  go_wp2_with fail
  go_loopw [11] (fun ix wr => ∃ i : Nat, i ≤ len2 ∧ i ≤ 10 ∧ ix = .int .i64 (i : Int) ∧ InAt 75 wr g (bs, er) ∧ Below w.heap.size w wr) (fun ix _ => 10 - (intOf ix).toNat)
  case atStart => exact ⟨0, Nat.zero_le _, by omega, rfl, hin5, hb5⟩
  case round =>
    obtain ⟨i, hi1, hi2, rfl, hin, hb⟩ := hrel
    by_cases hlt : i < len2 ∧ i < 10
    · obtain ⟨hlt1, hlt2⟩ := hlt
      obtain ⟨ad, u, rfl, _, hu, hcell⟩ := (HRD2.out.below hb).at_ hlt1
      obtain ⟨x, hx, rfl⟩ := iv_at hu
      have hxb := wf_bd (HWF.out x (List.mem_of_getElem? hx))
      have hak := arN_bd x 4 (by omega)
      have hca := fun W => around_any x 4 hxb.1 hxb.2 (by omega) (by omega) W
      obtain ⟨kk, hkk⟩ : ∃ kk, arN x 4 = kk := ⟨_, rfl⟩
      simp only [hkk] at hak hca
      clear hkk hx hu hxb
      go_wp2_with fail
      refine (hca _).mono ?_
      rintro e w6 ⟨rfl, rfl⟩
      clear hca
      go_wp2_with fail
      refine (read_val ⟨kk, 0, 0, [], []⟩ (bs, er) g kk 50 (by omega) (by omega) (bs, er) (V.read_err kk 50 HN0.out) (by show bs.length ≤ _; rw [HBL.out]; omega) _ hin).mono ?_
      rintro e w6 ⟨v, rfl, hv, hin6, hg6⟩
      have hb6 := only_new hb hg6 hb.size hgw
      clear hb hg6 hin
      go_wp2_with fail
      refine (same_any v _ ⟨kk, 0, 0, [], []⟩ (by simp) (by simp) _ hv ⟨none, 0, none, 0, rfl, Reads.none_, Reads.none_⟩).mono ?_
      rintro e w7 ⟨rfl, hd⟩
      have hin7 := hin6.below hd
      have hb7 := blater hb6 (Nat.le_refl _) hd
      clear hb6 hd hin6 hv
      go_wp2_with fail
      refine (inErr_val er g (bs, er) rfl _ hin7).mono ?_
      rintro e w8 ⟨rfl, rfl⟩
      go_wp2_with fail
      refine (inEnd_val er g (bs, er) (V.fin_err HN0.out) _ hin7).mono ?_
      rintro e w8 ⟨rfl, rfl⟩
      go_wp2_with fail
      go_roundw
      case rel => exact ⟨i + 1, by omega, by omega, by go_num, hin7, hb7⟩
      case measure => simp [intOf]; omega
    · have hge : len2 ≤ i ∨ 10 ≤ i := by omega
      go_wp2_with fail
      all_goals
        refine (inErr_val er g (bs, er) rfl _ hin).mono ?_
        rintro e w8 ⟨rfl, rfl⟩
        go_wp2_with fail
        refine (inEnd_val er g (bs, er) (V.fin_err HN0.out) _ hin).mono ?_
        rintro e w8 ⟨rfl, rfl⟩
        go_wp2_with fail
        refine (lives_any _).mono ?_
        rintro e w9 ⟨rfl, hd⟩
        have hb9 := blater hb (Nat.le_refl _) hd
        clear hd
        go_wp2_with fail
        go_ret
        exact ⟨rfl, hb9⟩
end Go.Proofs.Ytkjlafklhdojmaa
