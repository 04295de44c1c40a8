/- DepsBelow: each waits for lower ones alone. -/
import Derived.Deep.RegionHeld3
import Derived.Deep.DeepCutAuto
import Derived.Deep.RegionHeld
import Derived.Test.YtjoafadhcdipnaaRun
namespace Go.Proofs.Ytjoafadhcdipnaa
open Go.RowKit Go.Maps T Go.Proofs.YtjoafadhcdipnaaW.PrintWords Go.Proofs.YtjoafadhcdipnaaW.PrintLast Go.Proofs.YtjoafadhcdipnaaW.PrintMore
attribute [local go_sem] max2_int min2_int max_two min_two max_three min_three max_four min_four
set_option linter.unusedVariables false
set_option linter.unusedSimpArgs false

theorem rising_at {l : List Int} (h : Rising l) (i j : Int) (h0 : 0 ≤ i) (h1 : i < j) (h2 : j < (l.length : Int)) : l.getD i.toNat 0 < l.getD j.toNat 0 := by
  unfold Rising at h
  rw [List.pairwise_iff_getElem] at h
  rw [List.getD_eq_getElem?_getD, List.getD_eq_getElem?_getD, List.getElem?_eq_getElem (show i.toNat < l.length by omega), List.getElem?_eq_getElem (show j.toNat < l.length by omega)]
  exact h _ _ _ _ (by omega)
theorem getI_mem (l : List Int) (i : Int) (h0 : 0 ≤ i) (h1 : i < (l.length : Int)) : l.getD i.toNat 0 ∈ l := getD_mem l i.toNat (by omega)
theorem rising_head {l : List Int} (h : Rising l) {y : Int} (hy : y ∈ l) : l.getD 0 0 ≤ y := by
  cases l with
  | nil => cases hy
  | cons a r =>
    unfold Rising at h
    rw [List.pairwise_cons] at h
    show a ≤ y
    rcases List.mem_cons.1 hy with rfl | hy
    · exact Int.le_refl _
    · have := h.1 y hy; omega

/-- A cell of a row, and the one ahead of it. -/
theorem two_at {w : World} {A : Option Addr} {n : Nat} {xs : List Int} (h : Kd.C (Kd.int .i64) w A n xs) (i : Int) (h0 : 0 < i) (h1 : i < n) : ∃ ad, A = some ad ∧ w.cell? (ad.add i.toNat) = some (.int .i64 (xs.getD i.toNat 0)) ∧ w.cell? (ad.add (i - 1).toNat) = some (.int .i64 (xs.getD (i - 1).toNat 0)) := by
  obtain ⟨ad, rfl, hx⟩ := il_at h i (by omega) h1
  obtain ⟨ad2, e, hy⟩ := il_at h (i - 1) (by omega) (by omega)
  obtain rfl : ad = ad2 := by injection e
  exact ⟨ad, rfl, hx, hy⟩

set_option maxRecDepth 100000 in
set_option maxHeartbeats 16000000 in
theorem below_calls (A1 : Option Addr) (c1 : Nat) (l : List Dd) (hg : ∀ d ∈ l, goodD d) (w : World) (hr : Kd.C kdeed w A1 l.length l) (hc : l.length ≤ c1) : Calls Try.prog 4 #[.slice A1 l.length c1] w fun e w' => e = .returned (.bool true) ∧ Below w.heap.size w w' := by
  have HR := Aside0.mk hr
  have HG := Aside0.mk hg
  clear hr hg
  go_enter Try.func4, Try.ntmps4
  go_wp2_with fail
  refine (awake_calls _).mono ?_
  rintro e w1 ⟨rfl, hb1⟩
  have HB := Aside0.mk hb1
  clear hb1
  go_wp2_with fail
  refine (run_calls A1 c1 l HG.out _ (Kd.C_below HR.out HB.out) hc).mono ?_
  rintro e w2 ⟨p, b, n, B, v, x, rfl, hn, hp⟩
  have HD := Aside0.mk (show DS w w2 p b n (ranK l) B (ranW l) from ⟨hp.ds.dep.base_le HB.out.size, HB.out.trans (hp.ds.below.mono HB.out.size)⟩)
  have HX := Aside0.mk hp.rel
  have HN := Aside0.mk hn
  obtain ⟨K, hK⟩ : ∃ K, ranK l = K := ⟨_, rfl⟩
  obtain ⟨W, hW⟩ : ∃ W, ranW l = W := ⟨_, rfl⟩
  rw [hK, hW] at HD
  rw [hW] at HX
  clear hn hp hK hW HB
  go_wp2_with fail
  refine (all_calls _ HD.out.dep (by have := HN.out; omega)).mono ?_
  rintro e w3 ⟨v3, rfl, hR, hb⟩
  obtain ⟨A3, c3, rfl⟩ := Kd.R_slice hR
  have HC3 := Aside0.mk (Kd.R_reads' hR).2.2
  have HD3 := Aside0.mk (HD.out.go hb)
  have HLK := Aside0.mk (show K.length ≤ 60 by have h1 := HD.out.dep.own.size_le; rw [O_size] at h1; have := HN.out; omega)
  have hlk : (K.length : Int) ≤ 60 := by have := HLK.out; omega
  clear hR hb HD
  go_wp2
  go_loopg [6] K.length (fun g v6 w' => ∃ (j : Int), v6 = .int .i64 j ∧ Aside0 (0 ≤ j ∧ j + g = K.length) ∧ Aside0 (DS w w' p b n K B W) ∧ Aside0 (Kd.C (Kd.int .i64) w' A3 K.length K))
  case atStart => exact ⟨0, rfl, ⟨by simp⟩, HD3, HC3⟩
  case round =>
    clear HD3 HC3
    obtain ⟨j, rfl, HJ, HD, HC⟩ := hrel
    have hj := HJ.out
    cases gk with
    | zero =>
      have d1 : decide (j < (K.length : Int)) = false := decide_eq_false (by omega)
      clear hj
      go_wp2
      go_ret
      exact ⟨rfl, HD.out.below⟩
    | succ g =>
      have h0 : 0 ≤ j := hj.1
      have h1 : j < (K.length : Int) := by omega
      have d1 : decide (j < (K.length : Int)) = true := decide_eq_true h1
      have e4 : wrap64 (j + 1) = j + 1 := by unfold wrap64; omega
      have e6 : IntKind.i64.wrap (j - 1) = j - 1 := by rw [IntKind.wrap_i64]; omega
      have e7 : wrap64 (j - 1) = j - 1 := by unfold wrap64; omega
      have HKM := Aside0.mk (getI_mem K j h0 h1)
      obtain ⟨ad, e, hx⟩ := il_at HC.out j h0 h1
      subst e
      obtain ⟨a, ha⟩ : ∃ a, K.getD j.toNat 0 = a := ⟨_, rfl⟩
      have HAE := Aside0.mk ha
      rw [ha] at hx HKM
      have HWF := Aside0.mk (HD.out.dep.wf a HKM.out)
      have HNE := Aside0.mk ((HD.out.dep.some a).1 HKM.out)
      clear hj ha
      go_wp2_with fail
      refine (waits_calls a HWF.out _ HD.out.dep (by have := HN.out; omega)).mono ?_
      rintro e w4 ⟨v4, rfl, hR, hb⟩
      obtain ⟨A4, c4, rfl⟩ := Kd.R_slice hR
      have HD4 := Aside0.mk (HD.out.go hb)
      have HC4 := Aside0.mk (Kd.C_below HC.out hb)
      have HCW := Aside0.mk (Kd.R_reads' hR).2.2
      have HLW := Aside0.mk (show (W a).length ≤ 60 by have h1 := (HD.out.dep.inner a HKM.out).size_le; rw [D_size] at h1; have := HN.out; omega)
      have hlw : ((W a).length : Int) ≤ 60 := by have := HLW.out; omega
      have hw0 : (((W a).length : Int) == 0) = false := by have := HNE.out; simpa using this
      have hx4 := pw_cell_below hb hx
      clear hR hb hx HD HC
      go_upto_region 8 with fail
      go_cut [44] (fun v44 wc => v44 = .bool false ∧ Aside0 (Below w4.heap.size w4 wc))
      case first =>
        by_cases hj0 : j > 0
        · have d7 : decide (j > 0) = true := decide_eq_true hj0
          obtain ⟨ad2, e', _, hy⟩ := two_at HC4.out j (by omega) h1
          obtain rfl : ad = ad2 := by injection e'
          have hlt := rising_at HD4.out.dep.rise (j - 1) j (by omega) (by omega) h1
          rw [HAE.out] at hlt
          obtain ⟨u, hu⟩ : ∃ u, K.getD (j - 1).toNat 0 = u := ⟨_, rfl⟩
          rw [hu] at hy hlt
          have d8 : decide (a ≤ u) = false := decide_eq_false (by omega)
          have hy2 : w4.cell? (ad.add (j.toNat - 1)) = some (.int .i64 u) := by rw [show j.toNat - 1 = (j - 1).toNat by omega]; exact hy
          have n1 : (1 : Int) ≤ j := by omega
          have n2 : j ≤ (K.length : Int) := by omega
          have n3 : j < (K.length : Int) + 1 := by omega
          have p0 : 0 ≤ j - 1 := by omega
          have p1 : j - 1 < (K.length : Int) := by omega
          clear e' hlt hu
          go_quiet (fail)
          go_wp2_with fail
          go_meet
          case rel => exact ⟨rfl, ⟨pw_below_drewN (Below.refl _ _) _⟩⟩
        · have d7 : decide (j > 0) = false := decide_eq_false hj0
          go_quiet (fail)
          go_wp2_with fail
          go_meet
          case rel => exact ⟨rfl, ⟨pw_below_drewN (Below.refl _ _) _⟩⟩
      case rest =>
        obtain ⟨rfl, HBC⟩ := hcut
        have HD5 := Aside0.mk (HD4.out.go HBC.out)
        have HC5 := Aside0.mk (Kd.C_below HC4.out HBC.out)
        have HW5 := Aside0.mk (Kd.C_below HCW.out HBC.out)
        have HAM := Aside0.mk (show j = 0 → ∀ y ∈ W a, W y = [] from fun hj0 y hy => by
          have h1 := (HX.out.lowW hy).2
          refine Decidable.byContradiction fun hne => ?_
          have h2 := rising_head HD4.out.dep.rise ((HD4.out.dep.some y).2 hne)
          have h3 := HAE.out
          rw [hj0] at h3
          simp only [Int.toNat_zero] at h3
          omega)
        clear hx4 HD4 HC4 HCW
        go_wp2
        go_loopg [8] (W a).length (fun g v8 w' => ∃ (q : Int), v8 = .int .i64 q ∧ Aside0 (0 ≤ q ∧ q + g = (W a).length) ∧ Aside0 (DS w w' p b n K B W) ∧ Aside0 (Kd.C (Kd.int .i64) w' (some ad) K.length K) ∧ Aside0 (Kd.C (Kd.int .i64) w' A4 (W a).length (W a)))
        case atStart => exact ⟨0, rfl, ⟨by simp⟩, HD5, HC5, HW5⟩
        case round =>
          clear HD5 HC5 HW5
          obtain ⟨q, rfl, HQ, HD, HC, HCW⟩ := hrel
          have hq := HQ.out
          cases gk with
          | zero =>
            have d2 : decide (q < ((W a).length : Int)) = false := decide_eq_false (by omega)
            clear hq
            go_wp2
            go_roundg g
            case measure => omega
            case rel => exact ⟨j + 1, (by first | rfl | rw [e4]), ⟨by have h3 := HJ.out; push_cast at h3 ⊢; omega⟩, HD, HC⟩
          | succ g2 =>
            have q0 : 0 ≤ q := hq.1
            have q1 : q < ((W a).length : Int) := by omega
            have d2 : decide (q < ((W a).length : Int)) = true := decide_eq_true q1
            have e8 : wrap64 (q + 1) = q + 1 := by unfold wrap64; omega
            have e9 : IntKind.i64.wrap (q - 1) = q - 1 := by rw [IntKind.wrap_i64]; omega
            have e10 : wrap64 (q - 1) = q - 1 := by unfold wrap64; omega
            have HYM := Aside0.mk (getI_mem (W a) q q0 q1)
            obtain ⟨ad4, e, hy⟩ := il_at HCW.out q q0 q1
            subst e
            obtain ⟨ad', e', hx⟩ := il_at HC.out j h0 h1
            obtain rfl : ad = ad' := by injection e'
            rw [HAE.out] at hx
            obtain ⟨y, hye⟩ : ∃ y, (W a).getD q.toNat 0 = y := ⟨_, rfl⟩
            have HYE := Aside0.mk hye
            rw [hye] at hy HYM
            have hlow := HX.out.lowW HYM.out
            have d3 : decide (y < 1) = false := decide_eq_false (by omega)
            have d4 : decide (y ≥ a) = false := decide_eq_false (by omega)
            have HWY := Aside0.mk (HD.out.dep.wfs a y HYM.out)
            clear hq hye e' hlow
            go_upto_region 13 with fail
            go_cut [96] (fun v96 wc => v96 = .bool false ∧ Aside0 (Below wr.heap.size wr wc))
            case first =>
              by_cases hq0 : q > 0
              · have d5 : decide (q > 0) = true := decide_eq_true hq0
                obtain ⟨ad2, e', _, hz⟩ := two_at HCW.out q (by omega) q1
                obtain rfl : ad4 = ad2 := by injection e'
                have hlt := rising_at (HD.out.dep.rises a) (q - 1) q (by omega) (by omega) q1
                rw [HYE.out] at hlt
                obtain ⟨u, hu⟩ : ∃ u, (W a).getD (q - 1).toNat 0 = u := ⟨_, rfl⟩
                rw [hu] at hz hlt
                have d8 : decide (y ≤ u) = false := decide_eq_false (by omega)
                have hz2 : wr.cell? (ad4.add (q.toNat - 1)) = some (.int .i64 u) := by rw [show q.toNat - 1 = (q - 1).toNat by omega]; exact hz
                have n1 : (1 : Int) ≤ q := by omega
                have n2 : q ≤ ((W a).length : Int) := by omega
                have n3 : q < ((W a).length : Int) + 1 := by omega
                have p0 : 0 ≤ q - 1 := by omega
                have p1 : q - 1 < ((W a).length : Int) := by omega
                clear e' hlt hu
                by_cases hj0 : j = 0
                · have dj : (j == 0) = true := by simpa using hj0
                  have HWE := Aside0.mk (HAM.out hj0 y HYM.out)
                  clear hj0
                  have CW := Aside0.mk (show ∀ W', Below wr.heap.size wr W' → Calls Try.prog 15 #[.pointer (some ⟨p, 0, none⟩), .int .i64 y] W' fun e w' => (∃ A k, e = .returned (.slice A 0 k)) ∧ Below wr.heap.size wr w' from fun W' hW => by
                    refine (waits_calls y HWY.out W' (HD.out.go hW).dep (by have := HN.out; omega)).mono ?_
                    rintro e w' ⟨v, rfl, hR, hb⟩
                    rw [HWE.out] at hR
                    obtain ⟨A, k, rfl⟩ := Kd.R_slice hR
                    exact ⟨⟨A, k, rfl⟩, hW.trans (hb.mono hW.size)⟩)
                  have hb0 : Below wr.heap.size wr wr.drew := pw_below_drewN (Below.refl _ _) 1
                  go_region_held3 (fun w' => Below wr.heap.size wr w' ∧ w'.cell? (ad4.add q.toNat) = some (.int .i64 y) ∧ w'.cell? (ad.add j.toNat) = some (.int .i64 a) ∧ w'.cell? (ad4.add (q.toNat - 1)) = some (.int .i64 u))
                    (first | (refine ⟨?_, ?_, ?_, ?_⟩ <;> assumption) | (refine ⟨?_, ?_, ?_⟩ <;> assumption) | go_keep)
                    ((go_at_call 15; refine (CW.out _ ?_).mono ?_; (first | assumption | exact Below.refl _ _ | exact pw_below_drewN (Below.refl _ _) 1); rintro e wm ⟨⟨A9, k9, rfl⟩, hbm⟩; have m0 := pw_cell_below hbm hy; have m1 := pw_cell_below hbm hx; have m2 := pw_cell_below hbm hz2))
                  have HBM := Aside0.mk hbm
                  go_wp2_with fail
                  go_meet
                  case rel => exact ⟨rfl, HBM⟩
                · have dj : (j == 0) = false := by simpa using hj0
                  go_quiet (fail)
                  go_wp2_with fail
                  go_meet
                  case rel => exact ⟨rfl, ⟨pw_below_drewN (Below.refl _ _) _⟩⟩
              · have d5 : decide (q > 0) = false := decide_eq_false hq0
                by_cases hj0 : j = 0
                · have dj : (j == 0) = true := by simpa using hj0
                  have HWE := Aside0.mk (HAM.out hj0 y HYM.out)
                  clear hj0
                  obtain rfl : q = 0 := by omega
                  have hy0 : wr.cell? ad4 = some (.int .i64 y) := by simpa [Addr.add] using hy
                  have q1n : 0 < (W a).length := by omega
                  have q1i : (0 : Int) < ((W a).length : Int) := q1
                  have d5n : decide ((0 : Int) > 0) = false := by decide
                  clear d5 hq0
                  have CW := Aside0.mk (show ∀ W', Below wr.heap.size wr W' → Calls Try.prog 15 #[.pointer (some ⟨p, 0, none⟩), .int .i64 y] W' fun e w' => (∃ A k, e = .returned (.slice A 0 k)) ∧ Below wr.heap.size wr w' from fun W' hW => by
                    refine (waits_calls y HWY.out W' (HD.out.go hW).dep (by have := HN.out; omega)).mono ?_
                    rintro e w' ⟨v, rfl, hR, hb⟩
                    rw [HWE.out] at hR
                    obtain ⟨A, k, rfl⟩ := Kd.R_slice hR
                    exact ⟨⟨A, k, rfl⟩, hW.trans (hb.mono hW.size)⟩)
                  have hb0 : Below wr.heap.size wr wr.drew := pw_below_drewN (Below.refl _ _) 1
                  have hs0 : Below wr.heap.size wr wr.drew ∧ wr.drew.cell? ad4 = some (.int .i64 y) ∧ wr.drew.cell? (ad.add j.toNat) = some (.int .i64 a) := ⟨hb0, hy0, hx⟩
                  refine Go.wp_region_held_drew (S := (fun w' => Below wr.heap.size wr w' ∧ w'.cell? ad4 = some (.int .i64 y) ∧ w'.cell? (ad.add j.toNat) = some (.int .i64 a))) (by kernel_rfl) hs0 (fun hHeld => ?_)
                  refine Go.wpAnyH_take (i := 0) (v := ?_) rfl (by kernel_rfl) (by kernel_rfl) (by kernel_rfl) (fun _ _ _ h => h) (Or.inl ⟨by rfl, ?_⟩) hHeld ?_
                  rotate_left
                  · intro w hSw
                    obtain ⟨hsw0, hsw1, hsw2⟩ := hSw
                    go_simp
                    try with_reducible rfl
                  change Go.wpAnyH _ _ _ _ _ _ _ (Go.Act.put _ (some 51) _) _
                  simp only [Go.Act.put, List.setIfInBounds_toArray, List.set_cons_zero, List.set_cons_succ]
                  refine Go.wpAnyH_take (i := 1) (v := ?_) rfl (by kernel_rfl) (by kernel_rfl) (by kernel_rfl) (fun _ _ _ h => h) (Or.inl ⟨by rfl, ?_⟩) hHeld ?_
                  rotate_left
                  · intro w hSw
                    obtain ⟨hsw0, hsw1, hsw2⟩ := hSw
                    go_simp
                    try with_reducible rfl
                  change Go.wpAnyH _ _ _ _ _ _ _ (Go.Act.put _ (some 52) _) _
                  simp only [Go.Act.put, List.setIfInBounds_toArray, List.set_cons_zero, List.set_cons_succ]
                  refine Go.wpAnyH_take (i := 2) (v := ?_) rfl (by kernel_rfl) (by kernel_rfl) (by kernel_rfl) (fun _ _ _ h => h) (Or.inl ⟨by rfl, ?_⟩) hHeld ?_
                  rotate_left
                  · intro w hSw
                    obtain ⟨hsw0, hsw1, hsw2⟩ := hSw
                    go_simp
                    try with_reducible rfl
                  change Go.wpAnyH _ _ _ _ _ _ _ (Go.Act.put _ (some 53) _) _
                  simp only [Go.Act.put, List.setIfInBounds_toArray, List.set_cons_zero, List.set_cons_succ]
                  refine Go.wpAnyH_take (i := 3) (v := ?_) rfl (by kernel_rfl) (by kernel_rfl) (by kernel_rfl) (fun _ _ _ h => h) (Or.inl ⟨by rfl, ?_⟩) hHeld ?_
                  rotate_left
                  · intro w hSw
                    obtain ⟨hsw0, hsw1, hsw2⟩ := hSw
                    go_simp
                    try with_reducible rfl
                  change Go.wpAnyH _ _ _ _ _ _ _ (Go.Act.put _ (some 54) _) _
                  simp only [Go.Act.put, List.setIfInBounds_toArray, List.set_cons_zero, List.set_cons_succ]
                  refine Go.wpAnyH_take (i := 4) (v := ?_) rfl (by kernel_rfl) (by kernel_rfl) (by kernel_rfl) (fun _ _ _ h => h) (Or.inl ⟨by rfl, ?_⟩) hHeld ?_
                  rotate_left
                  · intro w hSw
                    obtain ⟨hsw0, hsw1, hsw2⟩ := hSw
                    go_simp
                    try with_reducible rfl
                  change Go.wpAnyH _ _ _ _ _ _ _ (Go.Act.put _ (some 55) _) _
                  simp only [Go.Act.put, List.setIfInBounds_toArray, List.set_cons_zero, List.set_cons_succ]
                  refine Go.wpAnyH_take (i := 5) (v := ?_) rfl (by kernel_rfl) (by kernel_rfl) (by kernel_rfl) (fun _ _ _ h => h) (Or.inl ⟨by rfl, ?_⟩) hHeld ?_
                  rotate_left
                  · intro w hSw
                    obtain ⟨hsw0, hsw1, hsw2⟩ := hSw
                    go_simp
                    try with_reducible rfl
                  change Go.wpAnyH _ _ _ _ _ _ _ (Go.Act.put _ (some 56) _) _
                  simp only [Go.Act.put, List.setIfInBounds_toArray, List.set_cons_zero, List.set_cons_succ]
                  refine Go.wpAnyH_take (i := 6) (v := ?_) rfl (by kernel_rfl) (by kernel_rfl) (by kernel_rfl) (fun _ _ _ h => h) (Or.inl ⟨by rfl, ?_⟩) hHeld ?_
                  rotate_left
                  · intro w hSw
                    obtain ⟨hsw0, hsw1, hsw2⟩ := hSw
                    go_simp
                    try with_reducible rfl
                  change Go.wpAnyH _ _ _ _ _ _ _ (Go.Act.put _ (some 57) _) _
                  simp only [Go.Act.put, List.setIfInBounds_toArray, List.set_cons_zero, List.set_cons_succ]
                  refine Go.wpAnyH_take (i := 7) (v := ?_) rfl (by kernel_rfl) (by kernel_rfl) (by kernel_rfl) (fun _ _ _ h => h) (Or.inl ⟨by rfl, ?_⟩) hHeld ?_
                  rotate_left
                  · intro w hSw
                    obtain ⟨hsw0, hsw1, hsw2⟩ := hSw
                    go_simp
                    try with_reducible rfl
                  change Go.wpAnyH _ _ _ _ _ _ _ (Go.Act.put _ (some 58) _) _
                  simp only [Go.Act.put, List.setIfInBounds_toArray, List.set_cons_zero, List.set_cons_succ]
                  refine Go.wpAnyH_take (i := 8) (v := ?_) rfl (by kernel_rfl) (by kernel_rfl) (by kernel_rfl) (fun _ _ _ h => h) (Or.inl ⟨by rfl, ?_⟩) hHeld ?_
                  rotate_left
                  · intro w hSw
                    obtain ⟨hsw0, hsw1, hsw2⟩ := hSw
                    go_simp
                    try with_reducible rfl
                  change Go.wpAnyH _ _ _ _ _ _ _ (Go.Act.put _ (some 59) _) _
                  simp only [Go.Act.put, List.setIfInBounds_toArray, List.set_cons_zero, List.set_cons_succ]
                  refine Go.wpAnyH_take (i := 9) (v := ?_) rfl (by kernel_rfl) (by kernel_rfl) (by kernel_rfl) (fun _ _ _ h => h) (Or.inl ⟨by rfl, ?_⟩) hHeld ?_
                  rotate_left
                  · intro w hSw
                    obtain ⟨hsw0, hsw1, hsw2⟩ := hSw
                    go_simp
                    try with_reducible rfl
                  change Go.wpAnyH _ _ _ _ _ _ _ (Go.Act.put _ (some 60) _) _
                  simp only [Go.Act.put, List.setIfInBounds_toArray, List.set_cons_zero, List.set_cons_succ]
                  refine Go.wpAnyH_take (i := 10) (v := ?_) rfl (by kernel_rfl) (by kernel_rfl) (by kernel_rfl) (fun _ _ _ h => h) (Or.inl ⟨by rfl, ?_⟩) hHeld ?_
                  rotate_left
                  · intro w hSw
                    obtain ⟨hsw0, hsw1, hsw2⟩ := hSw
                    go_simp
                    try with_reducible rfl
                  change Go.wpAnyH _ _ _ _ _ _ _ (Go.Act.put _ (some 61) _) _
                  simp only [Go.Act.put, List.setIfInBounds_toArray, List.set_cons_zero, List.set_cons_succ]
                  refine Go.wpAnyH_take (i := 11) (v := ?_) rfl (by kernel_rfl) (by kernel_rfl) (by kernel_rfl) (fun _ _ _ h => h) (Or.inl ⟨by rfl, ?_⟩) hHeld ?_
                  rotate_left
                  · intro w hSw
                    obtain ⟨hsw0, hsw1, hsw2⟩ := hSw
                    go_simp
                    try with_reducible rfl
                  change Go.wpAnyH _ _ _ _ _ _ _ (Go.Act.put _ (some 62) _) _
                  simp only [Go.Act.put, List.setIfInBounds_toArray, List.set_cons_zero, List.set_cons_succ]
                  refine Go.wpAnyH_take (i := 12) (v := ?_) rfl (by kernel_rfl) (by kernel_rfl) (by kernel_rfl) (fun _ _ _ h => h) (Or.inl ⟨by rfl, ?_⟩) hHeld ?_
                  rotate_left
                  · intro w hSw
                    obtain ⟨hsw0, hsw1, hsw2⟩ := hSw
                    go_simp
                    try with_reducible rfl
                  change Go.wpAnyH _ _ _ _ _ _ _ (Go.Act.put _ (some 63) _) _
                  simp only [Go.Act.put, List.setIfInBounds_toArray, List.set_cons_zero, List.set_cons_succ]
                  refine Go.wpAnyH_take (i := 13) (v := ?_) rfl (by kernel_rfl) (by kernel_rfl) (by kernel_rfl) (fun _ _ _ h => h) (Or.inl ⟨by rfl, ?_⟩) hHeld ?_
                  rotate_left
                  · intro w hSw
                    obtain ⟨hsw0, hsw1, hsw2⟩ := hSw
                    go_simp
                    try with_reducible rfl
                  change Go.wpAnyH _ _ _ _ _ _ _ (Go.Act.put _ (some 64) _) _
                  simp only [Go.Act.put, List.setIfInBounds_toArray, List.set_cons_zero, List.set_cons_succ]
                  refine Go.wpAnyH_take (i := 14) (v := ?_) rfl (by kernel_rfl) (by kernel_rfl) (by kernel_rfl) (fun _ _ _ h => h) (Or.inl ⟨by rfl, ?_⟩) hHeld ?_
                  rotate_left
                  · intro w hSw
                    obtain ⟨hsw0, hsw1, hsw2⟩ := hSw
                    go_simp
                    try with_reducible rfl
                  change Go.wpAnyH _ _ _ _ _ _ _ (Go.Act.put _ (some 65) _) _
                  simp only [Go.Act.put, List.setIfInBounds_toArray, List.set_cons_zero, List.set_cons_succ]
                  refine Go.wpAnyH_take (i := 15) (v := ?_) rfl (by kernel_rfl) (by kernel_rfl) (by kernel_rfl) (fun _ _ _ h => h) (Or.inl ⟨by rfl, ?_⟩) hHeld ?_
                  rotate_left
                  · intro w hSw
                    obtain ⟨hsw0, hsw1, hsw2⟩ := hSw
                    go_simp
                    try with_reducible rfl
                  change Go.wpAnyH _ _ _ _ _ _ _ (Go.Act.put _ (some 66) _) _
                  simp only [Go.Act.put, List.setIfInBounds_toArray, List.set_cons_zero, List.set_cons_succ]
                  refine Go.wpAnyH_take (i := 16) (v := ?_) rfl (by kernel_rfl) (by kernel_rfl) (by kernel_rfl) (fun _ _ _ h => h) (Or.inl ⟨by rfl, ?_⟩) hHeld ?_
                  rotate_left
                  · intro w hSw
                    obtain ⟨hsw0, hsw1, hsw2⟩ := hSw
                    go_simp
                    try with_reducible rfl
                  change Go.wpAnyH _ _ _ _ _ _ _ (Go.Act.put _ (some 67) _) _
                  simp only [Go.Act.put, List.setIfInBounds_toArray, List.set_cons_zero, List.set_cons_succ]
                  refine Go.wpAnyH_take (i := 17) (v := ?_) rfl (by kernel_rfl) (by kernel_rfl) (by kernel_rfl) (fun _ _ _ h => h) (Or.inl ⟨by rfl, ?_⟩) hHeld ?_
                  rotate_left
                  · intro w hSw
                    obtain ⟨hsw0, hsw1, hsw2⟩ := hSw
                    go_simp
                    try with_reducible rfl
                  change Go.wpAnyH _ _ _ _ _ _ _ (Go.Act.put _ (some 68) _) _
                  simp only [Go.Act.put, List.setIfInBounds_toArray, List.set_cons_zero, List.set_cons_succ]
                  refine Go.wpAnyH_take (i := 18) (v := ?_) rfl (by kernel_rfl) (by kernel_rfl) (by kernel_rfl) (fun _ _ _ h => h) (Or.inl ⟨by rfl, ?_⟩) hHeld ?_
                  rotate_left
                  · intro w hSw
                    obtain ⟨hsw0, hsw1, hsw2⟩ := hSw
                    go_simp
                    try with_reducible rfl
                  change Go.wpAnyH _ _ _ _ _ _ _ (Go.Act.put _ (some 69) _) _
                  simp only [Go.Act.put, List.setIfInBounds_toArray, List.set_cons_zero, List.set_cons_succ]
                  refine Go.wpAnyH_take (i := 19) (v := ?_) rfl (by kernel_rfl) (by kernel_rfl) (by kernel_rfl) (fun _ _ _ h => h) (Or.inl ⟨by rfl, ?_⟩) hHeld ?_
                  rotate_left
                  · intro w hSw
                    obtain ⟨hsw0, hsw1, hsw2⟩ := hSw
                    go_simp
                    try with_reducible rfl
                  change Go.wpAnyH _ _ _ _ _ _ _ (Go.Act.put _ (some 70) _) _
                  simp only [Go.Act.put, List.setIfInBounds_toArray, List.set_cons_zero, List.set_cons_succ]
                  refine Go.wpAnyH_take (i := 20) (v := undef) rfl (by kernel_rfl) (by kernel_rfl) (by kernel_rfl) (fun _ _ _ h => h) (Or.inr ⟨by rfl, rfl⟩) hHeld ?_
                  change Go.wpAnyH _ _ _ _ _ _ _ (Go.Act.put _ (some 71) _) _
                  simp only [Go.Act.put, List.setIfInBounds_toArray, List.set_cons_zero, List.set_cons_succ]
                  refine Go.wpAnyH_take (i := 21) (v := undef) rfl (by kernel_rfl) (by kernel_rfl) (by kernel_rfl) (fun _ _ _ h => h) (Or.inr ⟨by rfl, rfl⟩) hHeld ?_
                  change Go.wpAnyH _ _ _ _ _ _ _ (Go.Act.put _ (some 72) _) _
                  simp only [Go.Act.put, List.setIfInBounds_toArray, List.set_cons_zero, List.set_cons_succ]
                  refine Go.wpAnyH_take (i := 22) (v := undef) rfl (by kernel_rfl) (by kernel_rfl) (by kernel_rfl) (fun _ _ _ h => h) (Or.inr ⟨by rfl, rfl⟩) hHeld ?_
                  change Go.wpAnyH _ _ _ _ _ _ _ (Go.Act.put _ (some 73) _) _
                  simp only [Go.Act.put, List.setIfInBounds_toArray, List.set_cons_zero, List.set_cons_succ]
                  refine Go.wpAnyH_take (i := 23) (v := undef) rfl (by kernel_rfl) (by kernel_rfl) (by kernel_rfl) (fun _ _ _ h => h) (Or.inr ⟨by rfl, rfl⟩) hHeld ?_
                  change Go.wpAnyH _ _ _ _ _ _ _ (Go.Act.put _ (some 74) _) _
                  simp only [Go.Act.put, List.setIfInBounds_toArray, List.set_cons_zero, List.set_cons_succ]
                  refine Go.wpAnyH_take (i := 24) (v := undef) rfl (by kernel_rfl) (by kernel_rfl) (by kernel_rfl) (fun _ _ _ h => h) (Or.inr ⟨by rfl, rfl⟩) hHeld ?_
                  change Go.wpAnyH _ _ _ _ _ _ _ (Go.Act.put _ (some 75) _) _
                  simp only [Go.Act.put, List.setIfInBounds_toArray, List.set_cons_zero, List.set_cons_succ]
                  refine Go.wpAnyH_take (i := 25) (v := undef) rfl (by kernel_rfl) (by kernel_rfl) (by kernel_rfl) (fun _ _ _ h => h) (Or.inr ⟨by rfl, rfl⟩) hHeld ?_
                  change Go.wpAnyH _ _ _ _ _ _ _ (Go.Act.put _ (some 76) _) _
                  simp only [Go.Act.put, List.setIfInBounds_toArray, List.set_cons_zero, List.set_cons_succ]
                  refine Go.wpAnyH_take (i := 26) (v := undef) rfl (by kernel_rfl) (by kernel_rfl) (by kernel_rfl) (fun _ _ _ h => h) (Or.inr ⟨by rfl, rfl⟩) hHeld ?_
                  change Go.wpAnyH _ _ _ _ _ _ _ (Go.Act.put _ (some 77) _) _
                  simp only [Go.Act.put, List.setIfInBounds_toArray, List.set_cons_zero, List.set_cons_succ]
                  refine Go.wpAnyH_take (i := 27) (v := undef) rfl (by kernel_rfl) (by kernel_rfl) (by kernel_rfl) (fun _ _ _ h => h) (Or.inr ⟨by rfl, rfl⟩) hHeld ?_
                  change Go.wpAnyH _ _ _ _ _ _ _ (Go.Act.put _ (some 78) _) _
                  simp only [Go.Act.put, List.setIfInBounds_toArray, List.set_cons_zero, List.set_cons_succ]
                  refine Go.wpAnyH_take (i := 28) (v := undef) rfl (by kernel_rfl) (by kernel_rfl) (by kernel_rfl) (fun _ _ _ h => h) (Or.inr ⟨by rfl, rfl⟩) hHeld ?_
                  change Go.wpAnyH _ _ _ _ _ _ _ (Go.Act.put _ (some 79) _) _
                  simp only [Go.Act.put, List.setIfInBounds_toArray, List.set_cons_zero, List.set_cons_succ]
                  refine Go.wpAnyH_take (i := 29) (v := undef) rfl (by kernel_rfl) (by kernel_rfl) (by kernel_rfl) (fun _ _ _ h => h) (Or.inr ⟨by rfl, rfl⟩) hHeld ?_
                  change Go.wpAnyH _ _ _ _ _ _ _ (Go.Act.put _ (some 80) _) _
                  simp only [Go.Act.put, List.setIfInBounds_toArray, List.set_cons_zero, List.set_cons_succ]
                  refine Go.wpAnyH_take (i := 30) (v := ?_) rfl (by kernel_rfl) (by kernel_rfl) (by kernel_rfl) (fun _ _ _ h => h) (Or.inl ⟨by rfl, ?_⟩) hHeld ?_
                  rotate_left
                  · intro w hSw
                    obtain ⟨hsw0, hsw1, hsw2⟩ := hSw
                    go_simp
                    try with_reducible rfl
                  change Go.wpAnyH _ _ _ _ _ _ _ (Go.Act.put _ (some 81) _) _
                  simp only [Go.Act.put, List.setIfInBounds_toArray, List.set_cons_zero, List.set_cons_succ]
                  refine Go.wpAnyH_take (i := 31) (v := ?_) rfl (by kernel_rfl) (by kernel_rfl) (by kernel_rfl) (fun _ _ _ h => h) (Or.inl ⟨by rfl, ?_⟩) hHeld ?_
                  rotate_left
                  · intro w hSw
                    obtain ⟨hsw0, hsw1, hsw2⟩ := hSw
                    go_simp
                    try with_reducible rfl
                  change Go.wpAnyH _ _ _ _ _ _ _ (Go.Act.put _ (some 82) _) _
                  simp only [Go.Act.put, List.setIfInBounds_toArray, List.set_cons_zero, List.set_cons_succ]
                  refine Go.wpAnyH_take (i := 32) (v := ?_) rfl (by kernel_rfl) (by kernel_rfl) (by kernel_rfl) (fun _ _ _ h => h) (Or.inl ⟨by rfl, ?_⟩) hHeld ?_
                  rotate_left
                  · intro w hSw
                    obtain ⟨hsw0, hsw1, hsw2⟩ := hSw
                    go_simp
                    try with_reducible rfl
                  change Go.wpAnyH _ _ _ _ _ _ _ (Go.Act.put _ (some 83) _) _
                  simp only [Go.Act.put, List.setIfInBounds_toArray, List.set_cons_zero, List.set_cons_succ]
                  refine Go.wpAnyH_take (i := 33) (v := ?_) rfl (by kernel_rfl) (by kernel_rfl) (by kernel_rfl) (fun _ _ _ h => h) (Or.inl ⟨by rfl, ?_⟩) hHeld ?_
                  rotate_left
                  · intro w hSw
                    obtain ⟨hsw0, hsw1, hsw2⟩ := hSw
                    go_simp
                    try with_reducible rfl
                  change Go.wpAnyH _ _ _ _ _ _ _ (Go.Act.put _ (some 84) _) _
                  simp only [Go.Act.put, List.setIfInBounds_toArray, List.set_cons_zero, List.set_cons_succ]
                  refine Go.wpAnyH_take (i := 34) (v := ?_) rfl (by kernel_rfl) (by kernel_rfl) (by kernel_rfl) (fun _ _ _ h => h) (Or.inl ⟨by rfl, ?_⟩) hHeld ?_
                  rotate_left
                  · intro w hSw
                    obtain ⟨hsw0, hsw1, hsw2⟩ := hSw
                    go_simp
                    try with_reducible rfl
                  change Go.wpAnyH _ _ _ _ _ _ _ (Go.Act.put _ (some 85) _) _
                  simp only [Go.Act.put, List.setIfInBounds_toArray, List.set_cons_zero, List.set_cons_succ]
                  refine Go.wpAnyH_take (i := 35) (v := ?_) rfl (by kernel_rfl) (by kernel_rfl) (by kernel_rfl) (fun _ _ _ h => h) (Or.inl ⟨by rfl, ?_⟩) hHeld ?_
                  rotate_left
                  · intro w hSw
                    obtain ⟨hsw0, hsw1, hsw2⟩ := hSw
                    go_simp
                    try with_reducible rfl
                  change Go.wpAnyH _ _ _ _ _ _ _ (Go.Act.put _ (some 86) _) _
                  simp only [Go.Act.put, List.setIfInBounds_toArray, List.set_cons_zero, List.set_cons_succ]
                  refine Go.wpAnyH_take (i := 36) (v := ?_) rfl (by kernel_rfl) (by kernel_rfl) (by kernel_rfl) (fun _ _ _ h => h) (Or.inl ⟨by rfl, ?_⟩) hHeld ?_
                  rotate_left
                  · intro w hSw
                    obtain ⟨hsw0, hsw1, hsw2⟩ := hSw
                    go_simp
                    try with_reducible rfl
                  change Go.wpAnyH _ _ _ _ _ _ _ (Go.Act.put _ (some 87) _) _
                  simp only [Go.Act.put, List.setIfInBounds_toArray, List.set_cons_zero, List.set_cons_succ]
                  refine Go.wpAnyH_take (i := 37) (v := ?_) rfl (by kernel_rfl) (by kernel_rfl) (by kernel_rfl) (fun _ _ _ h => h) (Or.inl ⟨by rfl, ?_⟩) hHeld ?_
                  rotate_left
                  · intro w hSw
                    obtain ⟨hsw0, hsw1, hsw2⟩ := hSw
                    go_simp
                    try with_reducible rfl
                  change Go.wpAnyH _ _ _ _ _ _ _ (Go.Act.put _ (some 88) _) _
                  simp only [Go.Act.put, List.setIfInBounds_toArray, List.set_cons_zero, List.set_cons_succ]
                  refine Go.wpAnyH_take (i := 38) (v := ?_) rfl (by kernel_rfl) (by kernel_rfl) (by kernel_rfl) (fun _ _ _ h => h) (Or.inl ⟨by rfl, ?_⟩) hHeld ?_
                  rotate_left
                  · intro w hSw
                    obtain ⟨hsw0, hsw1, hsw2⟩ := hSw
                    go_simp
                    try with_reducible rfl
                  change Go.wpAnyH _ _ _ _ _ _ _ (Go.Act.put _ (some 89) _) _
                  simp only [Go.Act.put, List.setIfInBounds_toArray, List.set_cons_zero, List.set_cons_succ]
                  refine Go.wpAnyH_take (i := 39) (v := ?_) rfl (by kernel_rfl) (by kernel_rfl) (by kernel_rfl) (fun _ _ _ h => h) (Or.inl ⟨by rfl, ?_⟩) hHeld ?_
                  rotate_left
                  · intro w hSw
                    obtain ⟨hsw0, hsw1, hsw2⟩ := hSw
                    go_simp
                    try with_reducible rfl
                  change Go.wpAnyH _ _ _ _ _ _ _ (Go.Act.put _ (some 90) _) _
                  simp only [Go.Act.put, List.setIfInBounds_toArray, List.set_cons_zero, List.set_cons_succ]
                  refine Go.wpAnyH_take (i := 40) (v := ?_) rfl (by kernel_rfl) (by kernel_rfl) (by kernel_rfl) (fun _ _ _ h => h) (Or.inl ⟨by rfl, ?_⟩) hHeld ?_
                  rotate_left
                  · intro w hSw
                    obtain ⟨hsw0, hsw1, hsw2⟩ := hSw
                    go_simp
                    try with_reducible rfl
                  change Go.wpAnyH _ _ _ _ _ _ _ (Go.Act.put _ (some 91) _) _
                  simp only [Go.Act.put, List.setIfInBounds_toArray, List.set_cons_zero, List.set_cons_succ]
                  refine Go.wpAnyH_ready (rs := [41]) (by kernel_rfl) (by simp) ?_
                  refine Go.AllReadyH.cons rfl (fun Kc hKc => ?_) Go.AllReadyH.nil
                  go_simp
                  refine (CW.out _ hb0).mono ?_
                  rintro e wm ⟨⟨A9, k9, rfl⟩, hbm⟩
                  refine hKc.out _ _ ⟨hbm, pw_cell_below hbm hy0, pw_cell_below hbm hx⟩ (fun hHeld => ?_)
                  clear hKc Kc
                  have HBM := Aside0.mk hbm
                  try simp only [Go.Act.put, List.setIfInBounds_toArray, List.set_cons_zero, List.set_cons_succ]
                  refine Go.wpAnyH_take (i := 42) (v := ?_) rfl (by kernel_rfl) (by kernel_rfl) (by kernel_rfl) (fun _ _ _ h => h) (Or.inl ⟨by rfl, ?_⟩) hHeld ?_
                  rotate_left
                  · intro w hSw
                    obtain ⟨hsw0, hsw1, hsw2⟩ := hSw
                    go_simp
                    try with_reducible rfl
                  change Go.wpAnyH _ _ _ _ _ _ _ (Go.Act.put _ (some 93) _) _
                  simp only [Go.Act.put, List.setIfInBounds_toArray, List.set_cons_zero, List.set_cons_succ]
                  refine Go.wpAnyH_take (i := 43) (v := ?_) rfl (by kernel_rfl) (by kernel_rfl) (by kernel_rfl) (fun _ _ _ h => h) (Or.inl ⟨by rfl, ?_⟩) hHeld ?_
                  rotate_left
                  · intro w hSw
                    obtain ⟨hsw0, hsw1, hsw2⟩ := hSw
                    go_simp
                    try with_reducible rfl
                  change Go.wpAnyH _ _ _ _ _ _ _ (Go.Act.put _ (some 94) _) _
                  simp only [Go.Act.put, List.setIfInBounds_toArray, List.set_cons_zero, List.set_cons_succ]
                  refine Go.wpAnyH_take (i := 44) (v := ?_) rfl (by kernel_rfl) (by kernel_rfl) (by kernel_rfl) (fun _ _ _ h => h) (Or.inl ⟨by rfl, ?_⟩) hHeld ?_
                  rotate_left
                  · intro w hSw
                    obtain ⟨hsw0, hsw1, hsw2⟩ := hSw
                    go_simp
                    try with_reducible rfl
                  change Go.wpAnyH _ _ _ _ _ _ _ (Go.Act.put _ (some 95) _) _
                  simp only [Go.Act.put, List.setIfInBounds_toArray, List.set_cons_zero, List.set_cons_succ]
                  refine Go.wpAnyH_take (i := 45) (v := ?_) rfl (by kernel_rfl) (by kernel_rfl) (by kernel_rfl) (fun _ _ _ h => h) (Or.inl ⟨by rfl, ?_⟩) hHeld ?_
                  rotate_left
                  · intro w hSw
                    obtain ⟨hsw0, hsw1, hsw2⟩ := hSw
                    go_simp
                    try with_reducible rfl
                  change Go.wpAnyH _ _ _ _ _ _ _ (Go.Act.put _ (some 96) _) _
                  simp only [Go.Act.put, List.setIfInBounds_toArray, List.set_cons_zero, List.set_cons_succ]
                  refine Go.wpAnyH_done (by kernel_rfl) ?_ _
                  go_wp2_with fail
                  go_meet
                  case rel => exact ⟨rfl, HBM⟩
                · have dj : (j == 0) = false := by simpa using hj0
                  go_quiet (fail)
                  go_wp2_with fail
                  go_meet
                  case rel => exact ⟨rfl, ⟨pw_below_drewN (Below.refl _ _) _⟩⟩
            case rest =>
              obtain ⟨rfl, HBC⟩ := hcut
              go_wp2
              go_roundg g2
              case measure => omega
              case rel => exact ⟨q + 1, (by first | rfl | rw [e8]), ⟨by have h3 := HQ.out; push_cast at h3 ⊢; omega⟩, ⟨HD.out.go HBC.out⟩, ⟨Kd.C_below HC.out HBC.out⟩, ⟨Kd.C_below HCW.out HBC.out⟩⟩
end Go.Proofs.Ytjoafadhcdipnaa
