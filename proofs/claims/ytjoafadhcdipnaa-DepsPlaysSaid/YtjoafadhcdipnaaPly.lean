/- DepsPlays: the answers, who waits, and for whom. -/
import Derived.Deep.RegionHeld3
import Derived.Deep.DeepCutAuto
import Derived.Test.YtjoafadhcdipnaaTwo
namespace Go.Proofs.Ytjoafadhcdipnaa
open Go.RowKit Go.Maps T Go.Proofs.YtjoafadhcdipnaaW.PrintWords Go.Proofs.YtjoafadhcdipnaaW.PrintLast Go.Proofs.YtjoafadhcdipnaaW.PrintMore
attribute [local go_sem] max2_int min2_int max_two min_two max_three min_three max_four min_four
set_option linter.unusedVariables false

theorem same_in {wc W : World} {A A' : Option Addr} {c c' : Nat} {l : List Int} (hW : Below wc.heap.size wc W) (hl : l.length ≤ 1000) (h : Kd.C (Kd.int .i64) W A l.length l) (hc : l.length ≤ c) (h' : Kd.C (Kd.int .i64) W A' l.length l) (hc' : l.length ≤ c') :
    Calls Try.prog 13 #[.slice A l.length c, .slice A' l.length c'] W fun e w' => e = .returned (.bool true) ∧ Below wc.heap.size wc w' :=
  (same_calls hl h hc h' hc').mono fun e w' h => ⟨h.1, hW.trans (h.2.mono hW.size)⟩

/-- A call that hands back this list, and leaves all that was there as it was. -/
def Gives (wc W : World) (l : List Int) (e : Ending) (w' : World) : Prop := ∃ A k, e = .returned (.slice A l.length k) ∧ l.length ≤ k ∧ Kd.C (Kd.int .i64) w' A l.length l ∧ Below wc.heap.size wc w' ∧ Below W.heap.size W w'

theorem gives_R {wc W w' : World} {l : List Int} {v : Value} {base : Nat} {ok : Nat → Prop} (hW : Below wc.heap.size wc W) (hR : Kd.R (Kd.int .i64) 2 w' base ok v l) (hb : Below W.heap.size W w') : Gives wc W l (.returned v) w' := by
  obtain ⟨A, c, rfl⟩ := Kd.R_slice hR
  have h := Kd.R_reads' hR
  exact ⟨A, c, rfl, h.2.1, h.2.2, hW.trans (hb.mono hW.size), hb⟩
theorem gives_V {wc W w' : World} {l : List Int} {v : Value} {base : Nat} {ok : Nat → Prop} (hW : Below wc.heap.size wc W) (hR : Kd.V (Kd.int .i64) 2 w' base ok v l) (hb : Below W.heap.size W w') : Gives wc W l (.returned v) w' := by
  obtain ⟨A, c, rfl⟩ := Kd.V_slice hR
  have h := Kd.V_reads' hR
  exact ⟨A, c, rfl, h.2.1, h.2.2, hW.trans (hb.mono hW.size), hb⟩

theorem all_in {w0 wc W' : World} {p b n : Nat} {K : List Int} {B : Int → Nat} {W : Int → List Int} {v : Value} {x : List S53} (h : PS w0 wc p b n K B W v x) (hn : n ≤ 1000) (hW : Below wc.heap.size wc W') : Calls Try.prog 14 #[.pointer (some ⟨p, 0, none⟩)] W' (Gives wc W' K) :=
  (all_calls W' (h.ds.go hW).dep (by omega)).mono fun e w' h => by
    obtain ⟨v, rfl, hR, hb⟩ := h
    exact gives_R hW hR hb
theorem waits_in {w0 wc W' : World} {p b n : Nat} {K : List Int} {B : Int → Nat} {W : Int → List Int} {v : Value} {x : List S53} (h : PS w0 wc p b n K B W v x) (hn : n ≤ 1000) (a : Int) (ha : (Lit.int .i64 a).wf = true) (hW : Below wc.heap.size wc W') : Calls Try.prog 15 #[.pointer (some ⟨p, 0, none⟩), .int .i64 a] W' (Gives wc W' (W a)) :=
  (waits_calls a ha W' (h.ds.go hW).dep (by omega)).mono fun e w' h => by
    obtain ⟨v, rfl, hR, hb⟩ := h
    exact gives_R hW hR hb
theorem xwaits_in {w0 wc W' : World} {p b n : Nat} {K : List Int} {B : Int → Nat} {W : Int → List Int} {A : Option Addr} {c : Nat} {x : List S53} (h : PS w0 wc p b n K B W (.slice A x.length c) x) (hn : n ≤ 1000) (a : Int) (hW : Below wc.heap.size wc W') : Calls Try.prog 16 #[.slice A x.length c, .int .i64 a] W' (Gives wc W' (W a)) := by
  have hv := Kd.V_reads' (Kd.V_below h.row hW)
  refine (ogiveref12_Waits.calls 3000 A c x a (W a) W' hv.2.2 hv.2.1 (by rw [waits_tells x a (by have := h.len; omega) 3000 (Nat.le_refl _), h.rel.waits h.ds.dep.rises a])).mono fun e w' h => ?_
  obtain ⟨v, rfl, hR, hb⟩ := h
  exact gives_V hW hR hb
theorem xall_in {w0 wc : World} {p b n : Nat} {K : List Int} {B : Int → Nat} {W : Int → List Int} {A : Option Addr} {c : Nat} {x : List S53} (h : PS w0 wc p b n K B W (.slice A x.length c) x) (hn : n ≤ 1000) : Calls Try.prog 12 #[.slice A x.length c] wc (Gives wc wc K) := by
  have hv := Kd.V_reads' h.row
  refine (ogiveref12_All.calls 3000 A c x K wc hv.2.2 hv.2.1 (by rw [all_tells x (by have := h.len; omega) 3000 (Nat.le_refl _), h.rel.all h.ds.dep.rise h.ds.dep.some])).mono fun e w' h => ?_
  obtain ⟨v, rfl, hR, hb⟩ := h
  exact gives_V (Below.refl _ _) hR hb

set_option maxRecDepth 100000 in
set_option maxHeartbeats 8000000 in
theorem plays_calls (A1 : Option Addr) (c1 : Nat) (l : List Dd) (hg : ∀ d ∈ l, goodD d) (w : World) (hr : Kd.C kdeed w A1 l.length l) (hc : l.length ≤ c1) : Calls Try.prog 3 #[.slice A1 l.length c1] w fun e w' => e = .returned (.bool true) ∧ Below w.heap.size w w' := by
  have hu30 := Try.underlying30
  have hm : (l.length : Int) ≤ 9223372036854775807 := by have := hr.2.1; omega
  have HR := Aside0.mk hr
  have HG := Aside0.mk (good_at hg)
  obtain ⟨N, hN⟩ : ∃ N : Nat, N = min l.length 60 := ⟨_, rfl⟩
  have HN := Aside0.mk hN
  clear hr hg hN
  go_enter Try.func3, Try.ntmps3
  go_wp2_with fail
  refine (awake_calls _).mono ?_
  rintro e w1 ⟨rfl, hb1⟩
  have HB := Aside0.mk hb1
  clear hb1
  go_wp2_with fail
  refine (new_calls _).mono ?_
  rintro e w2 ⟨rfl, hd, hb⟩
  have HS := Aside0.mk (DS.made HB.out hd hb)
  obtain ⟨p, hp⟩ : ∃ p, w1.heap.size + 1 = p := ⟨_, rfl⟩
  obtain ⟨b, hbb⟩ : ∃ b, w1.heap.size = b := ⟨_, rfl⟩
  rw [hp, show DS w w2 p w1.heap.size 0 [] (fun _ => 0) (fun _ => []) = DS w w2 p b 0 [] (fun _ => 0) (fun _ => []) by rw [hbb]] at HS
  rw [hp]
  clear hd hb hp hbb HB
  go_wp2
  go_loopg [5, 6] N (fun g v5 v6 w' => ∃ (j : Int) (n : Nat) (K : List Int) (B : Int → Nat) (W : Int → List Int) (x : List S53), v6 = .int .i64 j ∧ Aside0 (0 ≤ j ∧ j + g = N ∧ n ≤ j.toNat) ∧ Aside0 (PS w w' p b n K B W v5 x))
  case atStart => exact ⟨0, 0, [], fun _ => 0, fun _ => [], [], rfl, ⟨by simp⟩, ⟨⟨HS.out, Kd.V_nil _ _ _ _ _, rel_nil, by simp⟩⟩⟩
  case round =>
    clear HS
    obtain ⟨j, n, K, B, W, x, rfl, HJ, HS⟩ := hrel
    have hj := HJ.out
    have hn := HN.out
    cases gk with
    | zero =>
      by_cases h1 : j < (l.length : Int)
      · have d1 : decide (j < (l.length : Int)) = true := decide_eq_true h1
        have d2 : decide (j < 60) = false := decide_eq_false (by omega)
        clear hj hn h1
        go_wp2
        go_ret
        exact ⟨rfl, HS.out.ds.below⟩
      · have d1 : decide (j < (l.length : Int)) = false := decide_eq_false h1
        clear hj hn
        go_wp2
        go_ret
        exact ⟨rfl, HS.out.ds.below⟩
    | succ g =>
      have h0 : 0 ≤ j := hj.1
      have h1 : j < (l.length : Int) := by omega
      have h2 : j < 60 := by omega
      have d1 : decide (j < (l.length : Int)) = true := decide_eq_true h1
      have d2 : decide (j < 60) = true := decide_eq_true h2
      have e4 : wrap64 (j + 1) = j + 1 := by unfold wrap64; omega
      obtain ⟨ad, e, hx0, hx1, hx2⟩ := dl_at (Kd.C_below HR.out HS.out.ds.below) j h0 h1
      subst e
      have hgd := HG.out j
      obtain ⟨d, hd⟩ : ∃ d, rdD l j = d := ⟨_, rfl⟩
      have HDE := Aside0.mk hd
      rw [hd] at hx0 hx1 hx2 hgd
      have HGD := Aside0.mk hgd
      have HGD1 := Aside0.mk hgd.1
      have HN1 := Aside0.mk (show n ≤ 90 by omega)
      clear hj hn hd hgd
      go_wp2_with fail
      refine (do_calls d.1 d.2.1 d.2.2 HGD.out.1 HGD.out.2 _ HS.out HN1.out).mono ?_
      rintro e w3 ⟨v3, n3, x3, B3, rfl, hn3, hp3⟩
      obtain ⟨A3, c3, rfl⟩ := Kd.V_slice hp3.row
      have HN3 := Aside0.mk (show n3 ≤ 1000 by have := HN1.out; omega)
      have HNJ := Aside0.mk (show n3 ≤ j.toNat + 1 by have := HJ.out; omega)
      obtain ⟨K3, hK3⟩ : ∃ y, stepK d.1 d.2.1 d.2.2 K W = y := ⟨_, rfl⟩
      obtain ⟨W3, hW3⟩ : ∃ y, stepW d.1 d.2.1 d.2.2 K W = y := ⟨_, rfl⟩
      rw [hK3, hW3] at hp3
      have HP3 := Aside0.mk hp3
      clear hn3 hp3 hx0 hx1 hx2 HS hK3 hW3
      go_wp2_with fail
      refine (xall_in HP3.out HN3.out).mono ?_
      rintro e w4 ⟨A9, c9, rfl, hk9, hC9, _, hb⟩
      have HP4 := Aside0.mk (HP3.out.go hb)
      have HC9 := Aside0.mk hC9
      have HK9 := Aside0.mk hk9
      clear hb hC9 hk9
      have HLK := Aside0.mk (show K3.length ≤ 1000 by have h1 := HP4.out.ds.dep.own.size_le; rw [O_size] at h1; have := HN3.out; omega)
      have HLW := Aside0.mk (show ∀ a, (W3 a).length ≤ 1000 from fun a => by
        by_cases hin : a ∈ K3
        · have h1 := (HP4.out.ds.dep.inner a hin).size_le
          rw [D_size] at h1
          have := HN3.out
          omega
        · have : W3 a = [] := Decidable.byContradiction fun hne => hin ((HP4.out.ds.dep.some a).2 hne)
          rw [this]; simp)
      go_upto_region 10 with fail
      obtain ⟨ad', e', hx0, hx1, hx2⟩ := dl_at (Kd.C_below HR.out HP4.out.ds.below) j h0 h1
      obtain rfl : ad = ad' := by injection e'
      rw [HDE.out] at hx1
      clear hx0 hx2 e'
      go_cut [62] (fun v62 wc => v62 = .bool false ∧ Aside0 (Below w4.heap.size w4 wc))
      case first =>
        have hb0 : Below w4.heap.size w4 w4.drew := pw_below_drewN (Below.refl _ _) 1
        go_region_held3 (fun w' => Below w4.heap.size w4 w' ∧ w'.cell? ⟨(ad.add (j.toNat * 3)).block, (ad.add (j.toNat * 3)).off + 1, none⟩ = some (.int .i64 d.2.1))
          (first | (refine ⟨?_, ?_⟩ <;> assumption) | go_keep)
          (first
          | (go_at_call 14; (with_reducible refine (all_in HP4.out HN3.out ?_).mono ?_); (first | assumption | exact Below.refl _ _ | exact pw_below_drewN (Below.refl _ _) 1); rintro e wa ⟨Aa, ka, rfl, hka, hCa, hba, hbb⟩; have a1 := pw_cell_below hba hx1; have hC9 := Kd.C_below HC9.out hba)
          | (go_at_call 16; (with_reducible refine (xwaits_in HP4.out HN3.out d.2.1 ?_).mono ?_); (assumption); rintro e wd ⟨Ac, kc, rfl, hkc, hCc, hbc1, hbb⟩; have c1 := pw_cell_below hbc1 hx1; (try have hCp := Kd.C_below hCb hbb))
          | (go_at_call 13; (with_reducible refine (same_in (l := K3) (wc := w4) ?_ HLK.out ?_ ?_ ?_ HK9.out).mono ?_); (assumption); (assumption); (assumption); (assumption); rintro e ws ⟨rfl, hbs⟩; have s1 := pw_cell_below hbs hx1)
          | (go_at_call 13; (with_reducible refine (same_in (l := W3 d.2.1) (wc := w4) ?_ (HLW.out _) ?_ ?_ ?_ ?_).mono ?_); (assumption); (assumption); (assumption); (assumption); (assumption); rintro e wt ⟨rfl, hbt⟩; have t1 := pw_cell_below hbt hx1)
          | (go_at_call 15; (with_reducible refine (waits_in HP4.out HN3.out d.2.1 HGD1.out ?_).mono ?_); (assumption); rintro e wb ⟨Ab, kb, rfl, hkb, hCb, hbb1, hbb⟩; have b1 := pw_cell_below hbb1 hx1; (try have hCq := Kd.C_below hCc hbb)))
        all_goals
          have HBT := Aside0.mk hbt
          go_wp2_with fail
          go_meet
          case rel => exact ⟨rfl, HBT⟩
      case rest =>
        obtain ⟨rfl, HB5⟩ := hcut
        have HP5 := Aside0.mk (HP4.out.go HB5.out)
        have HC5 := Aside0.mk (Kd.C_below HC9.out HB5.out)
        have hlk : (K3.length : Int) ≤ 1000 := by have := HLK.out; omega
        clear hx1 HP4 HC9
        go_wp2
        go_loopg [10] K3.length (fun g v10 w' => ∃ (q : Int), v10 = .int .i64 q ∧ Aside0 (0 ≤ q ∧ q + g = K3.length) ∧ Aside0 (PS w w' p b n3 K3 B3 W3 (.slice A3 x3.length c3) x3) ∧ Aside0 (Kd.C (Kd.int .i64) w' A9 K3.length K3))
        case atStart => exact ⟨0, rfl, ⟨by simp⟩, HP5, HC5⟩
        case round =>
          clear HP5 HC5
          obtain ⟨q, rfl, HQ, HP, HC⟩ := hrel
          have hq := HQ.out
          cases gk with
          | zero =>
            have d3 : decide (q < (K3.length : Int)) = false := decide_eq_false (by omega)
            clear hq
            go_wp2
            go_roundg g
            case measure => omega
            case rel => exact ⟨j + 1, n3, K3, B3, W3, x3, (by first | rfl | rw [e4]), ⟨by have h3 := HJ.out; have h4 := HNJ.out; push_cast at h3 ⊢; omega⟩, HP⟩
          | succ g2 =>
            have q0 : 0 ≤ q := hq.1
            have q1 : q < (K3.length : Int) := by omega
            have d3 : decide (q < (K3.length : Int)) = true := decide_eq_true q1
            have e8 : wrap64 (q + 1) = q + 1 := by unfold wrap64; omega
            have HKM := Aside0.mk (getI_mem2 K3 q q0 q1)
            obtain ⟨ad9, e, hx⟩ := il_at HC.out q q0 q1
            subst e
            obtain ⟨a, ha⟩ : ∃ a, K3.getD q.toNat 0 = a := ⟨_, rfl⟩
            rw [ha] at hx HKM
            have HWF := Aside0.mk (HP.out.ds.dep.wf a HKM.out)
            clear hq ha
            go_upto_region 15 with fail
            go_cut [82] (fun v82 wc => v82 = .bool false ∧ Aside0 (Below wr.heap.size wr wc))
            case first =>
              have hb0 : Below wr.heap.size wr wr.drew := pw_below_drewN (Below.refl _ _) 1
              go_region_held3 (fun w' => Below wr.heap.size wr w' ∧ w'.cell? (ad9.add q.toNat) = some (.int .i64 a))
                (first | (refine ⟨?_, ?_⟩ <;> assumption) | go_keep)
                (first
                | (go_at_call 16; (with_reducible refine (xwaits_in HP.out HN3.out a ?_).mono ?_); (first | assumption | exact Below.refl _ _ | exact pw_below_drewN (Below.refl _ _) 1); rintro e wd ⟨Ac, kc, rfl, hkc, hCc, hbc1, hbb⟩; have c1 := pw_cell_below hbc1 hx; (try have hCp := Kd.C_below hCb hbb))
                | (go_at_call 13; (with_reducible refine (same_in (l := W3 a) (wc := wr) ?_ (HLW.out _) ?_ ?_ ?_ ?_).mono ?_); (assumption); (assumption); (assumption); (assumption); (assumption); rintro e wt ⟨rfl, hbt⟩; have t1 := pw_cell_below hbt hx)
                | (go_at_call 15; (with_reducible refine (waits_in HP.out HN3.out a HWF.out ?_).mono ?_); (first | assumption | exact Below.refl _ _ | exact pw_below_drewN (Below.refl _ _) 1); rintro e wb ⟨Ab, kb, rfl, hkb, hCb, hbb1, hbb⟩; have b1 := pw_cell_below hbb1 hx; (try have hCq := Kd.C_below hCc hbb)))
              all_goals
                have HBT := Aside0.mk hbt
                go_wp2_with fail
                go_meet
                case rel => exact ⟨rfl, HBT⟩
            case rest =>
              obtain ⟨rfl, HB6⟩ := hcut
              clear hx
              go_wp2
              go_roundg g2
              case measure => omega
              case rel => exact ⟨q + 1, (by first | rfl | rw [e8]), ⟨by have h3 := HQ.out; push_cast at h3 ⊢; omega⟩, ⟨HP.out.go HB6.out⟩, ⟨Kd.C_below HC.out HB6.out⟩⟩
end Go.Proofs.Ytjoafadhcdipnaa
