/- DepsEnds: settled one by one, none waits at last. -/
import Derived.Test.YtjoafadhcdipnaaRun
namespace Go.Proofs.Ytjoafadhcdipnaa
open Go.RowKit Go.Maps T Go.Proofs.YtjoafadhcdipnaaW.PrintWords Go.Proofs.YtjoafadhcdipnaaW.PrintLast Go.Proofs.YtjoafadhcdipnaaW.PrintMore
attribute [local go_sem] max2_int min2_int max_two min_two max_three min_three max_four min_four
set_option linter.unusedVariables false

theorem without_lt {x : List S53} {W : Int → List Int} (h : Rel x W) {k y : Int} (hy : y ∈ W k) : (withoutX x [y]).length < x.length := by
  obtain ⟨p, hp, e1, e2⟩ := (h.mem k y).1 hy
  exact List.length_filter_lt_length_iff_exists.2 ⟨p, hp, by simp [e2]⟩

/-- What the law keeps. -/
structure En (w0 w : World) (p b n : Nat) (keys : List Int) (B : Int → Nat) (W : Int → List Int) (x : List S53) (j : Int) : Prop where
  ds : DS w0 w p b n keys B W
  rel : Rel x W
  few : (x.length : Int) + j ≤ 60
  nle : n ≤ 60

set_option maxRecDepth 100000 in
set_option maxHeartbeats 4000000 in
theorem ends_calls (A1 : Option Addr) (c1 : Nat) (l : List Dd) (hg : ∀ d ∈ l, goodD d) (w : World) (hr : Kd.C kdeed w A1 l.length l) (hc : l.length ≤ c1) : Calls Try.prog 7 #[.slice A1 l.length c1] w fun e w' => e = .returned (.bool true) ∧ Below w.heap.size w w' := by
  have HR := Aside0.mk hr
  have HG := Aside0.mk hg
  clear hr hg
  go_enter Try.func7, Try.ntmps7
  go_wp2_with fail
  refine (awake_calls _).mono ?_
  rintro e w1 ⟨rfl, hb1⟩
  have HB := Aside0.mk hb1
  clear hb1
  go_wp2_with fail
  refine (run_calls A1 c1 l HG.out _ (Kd.C_below HR.out HB.out) hc).mono ?_
  rintro e w2 ⟨p, b, n, B, v, x, rfl, hn, hp⟩
  have HE := Aside0.mk (show En w w2 p b n (ranK l) B (ranW l) x 0 from ⟨⟨hp.ds.dep.base_le HB.out.size, HB.out.trans (hp.ds.below.mono HB.out.size)⟩, hp.rel, by have := hp.len; omega, hn⟩)
  obtain ⟨K, hK⟩ : ∃ K, ranK l = K := ⟨_, rfl⟩
  obtain ⟨W, hW⟩ : ∃ W, ranW l = W := ⟨_, rfl⟩
  rw [hK, hW] at HE
  clear hn hp hK hW HB
  go_wp2
  go_loopg [5] 121 (fun g v5 w' => ∃ (j : Int) (K : List Int) (B : Int → Nat) (W : Int → List Int) (x : List S53), v5 = .int .i64 j ∧ Aside0 (0 ≤ j ∧ j + g = 121) ∧ Aside0 (En w w' p b n K B W x j))
  case atStart => exact ⟨0, K, B, W, x, rfl, ⟨by simp⟩, HE⟩
  case round =>
    clear HE
    obtain ⟨j, K, B, W, x, rfl, HJ, HE⟩ := hrel
    have hj := HJ.out
    have hf := HE.out.few
    have h0 : 0 ≤ j := hj.1
    have h1 : j < 121 := by omega
    have d1 : decide (j < 121) = true := decide_eq_true h1
    have e4 : wrap64 (j + 1) = j + 1 := by unfold wrap64; omega
    cases gk with
    | zero => omega
    | succ g =>
      clear hj hf
      cases K with
      | nil =>
        go_wp2_with fail
        refine (all_calls _ HE.out.ds.dep (by have := HE.out.nle; omega)).mono ?_
        rintro e w3 ⟨v3, rfl, hR, hb⟩
        obtain ⟨A3, c3, rfl⟩ := Kd.R_slice hR
        have HD3 := Aside0.mk (HE.out.ds.go hb)
        clear hR hb
        go_wp2
        go_ret
        exact ⟨rfl, HD3.out.below⟩
      | cons a r =>
        have ha := (HE.out.ds.dep.some a).1 List.mem_cons_self
        obtain ⟨y, q, hWa⟩ := List.exists_cons_of_ne_nil ha
        have HWA := Aside0.mk hWa
        have HWF := Aside0.mk (HE.out.ds.dep.wf a List.mem_cons_self)
        have HWY := Aside0.mk (HE.out.ds.dep.wfs a y (by rw [hWa]; exact List.mem_cons_self))
        have HLT := Aside0.mk (without_lt HE.out.rel (k := a) (y := y) (by rw [hWa]; exact List.mem_cons_self))
        clear ha hWa
        go_wp2_with fail
        refine (all_calls _ HE.out.ds.dep (by have := HE.out.nle; omega)).mono ?_
        rintro e w3 ⟨v3, rfl, hR, hb⟩
        obtain ⟨A3, c3, rfl⟩ := Kd.R_slice hR
        have HD3 := Aside0.mk (HE.out.ds.go hb)
        obtain ⟨ad, rfl, hx⟩ := il_at (Kd.R_reads' hR).2.2 0 (by omega) (by simp)
        have hx0 : w3.cell? ad = some (.int .i64 a) := by simpa [Addr.add] using hx
        have hlen : (0 : Int) < ((a :: r).length : Int) := by simp
        have hlen0 : (((a :: r).length : Int) == 0) = false := by simp; omega
        clear hR hb hx
        go_wp2_with fail
        refine (waits_calls a HWF.out _ HD3.out.dep (by have := HE.out.nle; omega)).mono ?_
        rintro e w4 ⟨v4, rfl, hR, hb⟩
        rw [HWA.out] at hR
        obtain ⟨A4, c4, rfl⟩ := Kd.R_slice hR
        have HD4 := Aside0.mk (HD3.out.go hb)
        obtain ⟨ad4, rfl, hx⟩ := il_at (Kd.R_reads' hR).2.2 0 (by omega) (by simp)
        have hx4 : w4.cell? ad4 = some (.int .i64 y) := by simpa [Addr.add] using hx
        have hlen4 : (0 : Int) < ((y :: q).length : Int) := by simp
        have hlen40 : (((y :: q).length : Int) == 0) = false := by simp; omega
        clear hR hb hx hx0
        go_wp2_with fail
        refine (settle_calls HWY.out _ HD4.out.dep).mono ?_
        rintro e w5 ⟨rfl, hd, hk, hq⟩
        have HE5 := Aside0.mk (show En w w5 p b n (stay (a :: r) W y) B (settled W y) (withoutX x [y]) (j + 1) from ⟨HD4.out.next hd hk hq, HE.out.rel.settle y, by have h1 := HE.out.few; have h2 := HLT.out; omega, HE.out.nle⟩)
        clear hd hk hq hx4
        go_wp2
        go_roundg g
        case measure => omega
        case rel => exact ⟨j + 1, _, B, _, _, (by first | rfl | rw [e4]), ⟨by have h3 := HJ.out; push_cast at h3 ⊢; omega⟩, HE5⟩
end Go.Proofs.Ytjoafadhcdipnaa
