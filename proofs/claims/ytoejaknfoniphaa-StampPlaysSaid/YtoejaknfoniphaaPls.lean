/- StampPlays, walked by its facts. -/
import Derived.Deep.RegionHeld3
import Derived.Deep.DeepCutAuto
import Derived.Test.YtoejaknfoniphaaPly
namespace Go.Proofs.Ytoejaknfoniphaa
open Go.RowKit Go.Maps T Go.Proofs.YtoejaknfoniphaaW.PrintWords Go.Proofs.YtoejaknfoniphaaW.PrintLast Go.Proofs.YtoejaknfoniphaaW.PrintMore
attribute [local go_sem] max2_int min2_int max_two min_two max_three min_three max_four min_four
set_option linter.unusedVariables false

/-- What both clocks tell. -/
structure Okp (n : Nat) (next : Int) (act : List Int) : Prop where
  rising : Rising act
  below : ∀ t ∈ act, t < next
  one : 1 ≤ next
  most : next ≤ 1099511627777
  len : act.length ≤ n

theorem Doc.kept2 {w0 w w' : World} {p b xb : Nat} {next : Int} {v v' : Value} {act act' : List Int} (h : Doc w0 w p b xb next v act) (hk : Kept w w' (fun k => k ≠ p ∧ k ≠ b ∧ k ≠ xb)) (hr : Kd.R (Kd.int .i64) 2 w' w0.heap.size (fun k => (k ≠ p ∧ k ≠ b ∧ k ≠ xb) ∨ w.heap.size ≤ k) v' act') (hp : p < w.heap.size) (hb : b < w.heap.size) :
    w'.heap[xb]? = some (.cells #[.int .i64 next, v] 37 (0, 0)) ∧ Kd.R (Kd.int .i64) 2 w' w0.heap.size (fun k => k ≠ p ∧ k ≠ b ∧ k ≠ xb) v' act' := by
  have hx := blk_lt h.box
  exact ⟨blk_kept h.box hk (fun hh => hh.2.2 rfl), Kd.R_mono hr (fun k hk => by rcases hk with hk | hk; exact hk; exact ⟨by omega, by omega, by omega⟩)⟩
theorem St.kept2 {w0 w w' : World} {p b n : Nat} {next : Int} {act : List Int} {S : Nat → Prop} (h : St w0 w p b n next act) (hk : Kept w w' S) (hp : ¬ S p) (hb : ¬ S b) (hB : Below w0.heap.size w0 w') : St w0 w' p b n next act :=
  ⟨⟨blk_kept h.clk.box hk hp, (by
    obtain ⟨es, clock, hm, hF⟩ := h.clk.own
    exact ⟨es, clock, (hk.2 b (blk_lt hm) hb).trans hm, hF⟩)⟩, h.hp, h.hb, hB⟩

theorem St.set2 {w0 w : World} {p b xb n : Nat} {next : Int} {act : List Int} (h : St w0 w p b n next act) (hp : xb ≠ p) (hb : xb ≠ b) (hx : w0.heap.size ≤ xb) (u v : Value) : St w0 ((w.setCell ⟨xb, 0, none⟩ u).setCell ⟨xb, 1, none⟩ v) p b n next act :=
  ⟨⟨blk_far (blk_far h.clk.box (fun e => hp e.symm) _) (fun e => hp e.symm) _, (h.clk.own.setCell (fun e => hb e.symm) _).setCell (fun e => hb e.symm) _⟩, h.hp, h.hb, (h.below.setCell hx _).setCell hx _⟩

theorem Doc.set2 {w0 w : World} {p b xb : Nat} {next next' : Int} {v v' : Value} {act' : List Int} (hx : w.heap[xb]? = some (.cells #[.int .i64 next, v] 37 (0, 0))) (hr : Kd.R (Kd.int .i64) 2 w w0.heap.size (fun k => k ≠ p ∧ k ≠ b ∧ k ≠ xb) v' act') (hp : xb ≠ p) (hb : xb ≠ b) (h0 : w0.heap.size ≤ xb) :
    Doc w0 ((w.setCell ⟨xb, 0, none⟩ (.int .i64 next')).setCell ⟨xb, 1, none⟩ v') p b xb next' v' act' :=
  ⟨blk_set (blk_set hx 0 _) 1 _, Kd.R_step hr (fun k hk hlt => (Below.heap_setCell _ _ _ k (fun e => hk.2.2 e)).trans (Below.heap_setCell _ _ _ k (fun e => hk.2.2 e))), hp, hb, h0⟩
theorem R_lower {w : World} {B B0 : Nat} {v : Value} {xs : List Int} (h : Kd.R (Kd.int .i64) 2 w B (fun _ => True) v xs) (hB : B0 ≤ B) : Kd.R (Kd.int .i64) 2 w B0 (fun k => B ≤ k) v xs := by
  have h0 := Kd.R_base h
  obtain ⟨ho, inner, hrow, hreps⟩ := h
  exact ⟨h0, inner, ownsRow_base_a hrow hB, hreps⟩

set_option maxRecDepth 100000 in
set_option maxHeartbeats 4000000 in
theorem plays_none (a0 : Int) (A1 : Option Addr) (c1 : Nat) (l : List (Int × Int)) (hn : ¬ (1 ≤ a0 ∧ a0 ≤ 1099511627777)) (w : World) (hr : Kd.C kdeed w A1 l.length l) (hc : l.length ≤ c1) :
    Calls Try.prog 5 #[.int .i64 a0, .slice A1 l.length c1] w fun e w' => e = .returned (.bool true) ∧ Below w.heap.size w w' := by
  have hu37 := Try.underlying37
  have HM := Aside0.mk (show ogiveref09_May.f a0 = some false by rw [doc_may, decide_eq_false hn])
  have HN := Aside0.mk hn
  have hm : (l.length : Int) ≤ 9223372036854775807 := by have := hr.2.1; omega
  clear hn hr
  go_enter Try.func5, Try.ntmps5
  go_wp2_with fail
  refine (awake_calls _).mono ?_
  rintro e w1 ⟨rfl, hb1⟩
  have HB := Aside0.mk hb1
  clear hb1
  go_wp2_with fail
  refine (new_none a0 HN.out _).mono ?_
  rintro e w2 ⟨rfl, rfl⟩
  go_wp2_with fail
  refine (ogiveref09_May.calls a0 false _ HM.out).mono ?_
  rintro e w3 ⟨rfl, hd⟩
  have HB3 := Aside0.mk (HB.out.trans (hd.below.mono HB.out.size))
  clear hd HB
  go_wp2
  go_loopg [8] 0 (fun g v8 w' => v8 = .int .i64 0 ∧ Aside0 (Below w.heap.size w w'))
  case atStart => exact ⟨rfl, ⟨HB3.out.alloc HB3.out.size _⟩⟩
  case round =>
    obtain ⟨rfl, HB2⟩ := hrel
    by_cases h1 : 0 < l.length
    · have d1 : decide (0 < l.length) = true := decide_eq_true h1
      have d1b : decide ((0 : Int) < (l.length : Int)) = true := decide_eq_true (by omega)
      go_wp2
      go_ret
      exact ⟨rfl, HB2.out⟩
    · have d1 : decide (0 < l.length) = false := decide_eq_false h1
      have d1b : decide ((0 : Int) < (l.length : Int)) = false := decide_eq_false (by omega)
      go_wp2
      go_ret
      exact ⟨rfl, HB2.out⟩

set_option maxRecDepth 100000 in
set_option maxHeartbeats 8000000 in
theorem plays_some (a0 : Int) (A1 : Option Addr) (c1 : Nat) (l : List (Int × Int)) (h0 : 1 ≤ a0) (h1 : a0 ≤ 1099511627777) (hg : ∀ x ∈ l, (Lit.int .i64 x.2).wf = true) (w : World) (hr : Kd.C kdeed w A1 l.length l) (hc : l.length ≤ c1) :
    Calls Try.prog 5 #[.int .i64 a0, .slice A1 l.length c1] w fun e w' => e = .returned (.bool true) ∧ Below w.heap.size w w' := by
  have hu37 := Try.underlying37
  have HM := Aside0.mk (show ogiveref09_May.f a0 = some true by rw [doc_may, decide_eq_true ⟨h0, h1⟩])
  have hm : (l.length : Int) ≤ 9223372036854775807 := by have := hr.2.1; omega
  have HR := Aside0.mk hr
  have hwf : ∀ i : Int, (Lit.int .i64 (rdD l i).2).wf = true := by
    intro i
    unfold rdD
    rw [List.getD_eq_getElem?_getD]
    cases h : l[i.toNat]? with
    | none => decide
    | some x => exact hg x (List.mem_of_getElem? h)
  have HW := Aside0.mk hwf
  obtain ⟨N, hN⟩ : ∃ N : Nat, N = min l.length 100 := ⟨_, rfl⟩
  have HN := Aside0.mk hN
  clear hr hg hwf hN
  go_enter Try.func5, Try.ntmps5
  go_wp2_with fail
  refine (awake_calls _).mono ?_
  rintro e w1 ⟨rfl, hb1⟩
  have HB := Aside0.mk hb1
  clear hb1
  go_wp2_with fail
  refine (new_some a0 h0 h1 _).mono ?_
  rintro e w2 ⟨rfl, hcl, hb⟩
  have HS := Aside0.mk (St.made HB.out hcl hb)
  obtain ⟨p, hp⟩ : ∃ p, w1.heap.size + 1 = p := ⟨_, rfl⟩
  obtain ⟨b, hbb⟩ : ∃ b, w1.heap.size = b := ⟨_, rfl⟩
  rw [hp, hbb] at HS
  rw [hp]
  clear hcl hb HB hp hbb
  go_wp2_with fail
  refine (ogiveref09_May.calls a0 true _ HM.out).mono ?_
  rintro e w3 ⟨rfl, hw3⟩
  have hS := HS.out.go hw3.below
  have HS3 := Aside0.mk hS
  have HP := Aside0.mk (show p < w3.heap.size from blk_lt hS.clk.box)
  have HQ := Aside0.mk (show b < w3.heap.size from hS.clk.own.lt)
  have HZ := Aside0.mk (show w.heap.size ≤ w3.heap.size from hS.below.size)
  clear hS hw3 HS
  obtain ⟨xb, hxb⟩ : ∃ xb, w3.heap.size = xb := ⟨_, rfl⟩
  go_wp2
  go_loopg [8] N (fun g v8 w' => ∃ (j next : Int) (act : List Int) (n : Nat) (v : Value), v8 = .int .i64 j ∧ Aside0 (0 ≤ j ∧ j + g = N ∧ n ≤ j.toNat) ∧ Aside0 (Okp n next act) ∧ Aside0 (St w w' p b n next act) ∧ Aside0 (Doc w w' p b xb next v act))
  case atStart =>
    have hx : w3.heap.size = xb := hxb
    exact ⟨0, a0, [], 0, .slice none 0 0, rfl, ⟨by simp⟩, ⟨by unfold Rising; simp, fun t ht => (by cases ht), h0, h1, by simp⟩, ⟨HS3.out.go ((Below.refl _ _).alloc (Nat.le_refl _) _)⟩, ⟨by rw [← hx]; exact blk_new _ _, by first | exact Kd.R_nil _ _ _ _ _ | exact Kd.R_nil, by have := HP.out; omega, by have := HQ.out; omega, by have := HZ.out; omega⟩⟩
  case round =>
    clear HS3 HP HQ HZ hxb
    obtain ⟨j, next, act, n, v, rfl, HJ, HOK, HS, HD⟩ := hrel
    have hj := HJ.out
    have hn := HN.out
    cases gk with
    | zero =>
      by_cases h1 : j < (l.length : Int)
      · have d1 : decide (j < (l.length : Int)) = true := decide_eq_true h1
        have d2 : decide (j < 100) = false := decide_eq_false (by omega)
        clear hj hn h1
        go_wp2
        go_ret
        exact ⟨rfl, HS.out.below⟩
      · have d1 : decide (j < (l.length : Int)) = false := decide_eq_false h1
        clear hj hn
        go_wp2
        go_ret
        exact ⟨rfl, HS.out.below⟩
    | succ g =>
      have h0 : 0 ≤ j := hj.1
      have h1 : j < (l.length : Int) := by omega
      have h2 : j < 100 := by omega
      have d1 : decide (j < (l.length : Int)) = true := decide_eq_true h1
      have d2 : decide (j < 100) = true := decide_eq_true h2
      have e4 : wrap64 (j + 1) = j + 1 := by unfold wrap64; omega
      clear hj hn
      obtain ⟨ad, e, hx0, hx1⟩ := dl_at (Kd.C_below HR.out HS.out.below) j h0 h1
      subst e
      have hwd := HW.out j
      obtain ⟨d, hd⟩ : ∃ d, rdD l j = d := ⟨_, rfl⟩
      rw [hd] at hx0 hx1 hwd
      have HWD := Aside0.mk hwd
      have HDD := Aside0.mk hd
      clear hd hwd
      go_upto_block 2 with fail
      go_cut [] (fun wc => ∃ (next : Int) (act : List Int) (n : Nat) (v : Value), Aside0 (n ≤ j.toNat + 1) ∧ Aside0 (Okp n next act) ∧ Aside0 (St w wc p b n next act) ∧ Aside0 (Doc w wc p b xb next v act))
      case first =>
        by_cases k1 : d.1 = 1
        · have kk1 : (d.1 == 1) = true := by simpa using k1
          clear k1
          by_cases ho : next ≤ 1099511627776
          · have HO := Aside0.mk ho
            go_wp2_with fail
            refine (issue_calls _ HS.out.clk ho (by have := HOK.out.one; omega) HOK.out.below (by have := HJ.out; have := HN.out; omega)).mono ?_
            rintro e w4 ⟨rfl, hcl, hmv⟩
            have HS4 := Aside0.mk (HS.out.moved hcl hmv)
            have HD4 := Aside0.mk (HD.out.moved hmv)
            have HI := Aside0.mk (doc_issue (next := next) (act := act) ho (by have := HOK.out.one; omega) (by have := HOK.out.len; have := HJ.out; have := HN.out; omega))
            clear hcl hmv ho
            have c0 : w4.cell? ⟨xb, 0, none⟩ = some (.int .i64 next) := blk_cell HD4.out.box 0
            have c1 : w4.cell? ⟨xb, 1, none⟩ = some v := blk_cell HD4.out.box 1
            go_wp2_with fail
            refine (ogiveref09_Issue.calls next _ v act _ _ _ _ w _ HS4.out.below HD4.out.row HI.out).mono ?_
            rintro e w5 ⟨v5, rfl, hR5, hB5, hK5⟩
            obtain ⟨A5, c5, rfl⟩ := Kd.R_slice hR5
            have HD5 := Aside0.mk (HD4.out.kept2 hK5 hR5 (blk_lt HS4.out.clk.box) HS4.out.clk.own.lt)
            have HS5 := Aside0.mk (HS4.out.kept2 hK5 (fun hh => hh.1 rfl) (fun hh => hh.2.1 rfl) hB5)
            clear c0 c1 HS4 HD4 hR5 hK5 hB5
            go_upto_region 15 with fail
            obtain ⟨W, hW⟩ : ∃ W, w5.alloc (.cells #[.int .i64 (next + 1), .slice A5 (act.length + 1) c5] 37) = W := ⟨_, rfl⟩
            obtain ⟨g5, hg5⟩ : ∃ g5, w5.heap.size = g5 := ⟨_, rfl⟩
            rw [hW, hg5]
            have HN5 := Aside0.mk (show W.heap[g5]? = some (.cells #[.int .i64 (next + 1), .slice A5 (act.length + 1) c5] 37 (0, 0)) by rw [← hW, ← hg5]; exact blk_new _ _)
            have HBW := Aside0.mk (show Below w5.heap.size w5 W by rw [← hW]; exact (Below.refl _ _).alloc (Nat.le_refl _) _)
            have HX5 := Aside0.mk (blk_below HD5.out.1 HBW.out)
            clear hW hg5
            have c0 : W.cell? ⟨xb, 0, none⟩ = some (.int .i64 next) := blk_cell HX5.out 0
            have c1 : W.cell? ⟨xb, 1, none⟩ = some v := blk_cell HX5.out 1
            have f0 : W.frozen? ⟨xb, 0, none⟩ = false := blk_frozen HX5.out 0
            have f1 : W.frozen? ⟨xb, 1, none⟩ = false := blk_frozen HX5.out 1
            have z0 : W.cell? ⟨g5, 0, none⟩ = some (.int .i64 (next + 1)) := blk_cell HN5.out 0
            have z1 : W.cell? ⟨g5, 1, none⟩ = some (.slice A5 (act.length + 1) c5) := blk_cell HN5.out 1
            go_wp2
            go_meet
            case rel =>
              refine ⟨next + 1, act ++ [next], n + 1, .slice A5 (act.length + 1) c5, ⟨by have := HJ.out; omega⟩, ?_, ?_, ?_⟩
              · exact ⟨⟨rising_snoc HOK.out.rising HOK.out.below, fun t ht => by
                  rcases List.mem_append.1 ht with ht | ht
                  · have := HOK.out.below t ht; omega
                  · have : t = next := by simpa using ht
                    omega, by have := HOK.out.one; omega, by have := HO.out; omega, by have := HOK.out.len; rw [List.length_append]; simp; omega⟩⟩
              · exact ⟨(HS5.out.go HBW.out).set2 HD.out.hp HD.out.hb HD.out.base _ _⟩
              · exact ⟨Doc.set2 HX5.out (by have h := Kd.R_below HD5.out.2 HBW.out; rw [List.length_append] at h; exact h) HD.out.hp HD.out.hb HD.out.base⟩
          · have HO := Aside0.mk ho
            have HI := Aside0.mk (doc_issue_over (next := next) (act := act) (by omega))
            go_wp2_with fail
            refine (issue_over _ HS.out.clk (by omega)).mono ?_
            rintro e w4 ⟨rfl, rfl⟩
            clear ho
            have c0 : w4.cell? ⟨xb, 0, none⟩ = some (.int .i64 next) := blk_cell HD.out.box 0
            have c1 : w4.cell? ⟨xb, 1, none⟩ = some v := blk_cell HD.out.box 1
            go_wp2_with fail
            refine (ogiveref09_Issue.calls next _ v act _ _ _ _ w _ HS.out.below HD.out.row HI.out).mono ?_
            rintro e w5 ⟨v5, rfl, hR5, hB5, hK5⟩
            obtain ⟨A5, c5, rfl⟩ := Kd.R_slice hR5
            have HD5 := Aside0.mk (HD.out.kept2 hK5 hR5 (blk_lt HS.out.clk.box) HS.out.clk.own.lt)
            have HS5 := Aside0.mk (HS.out.kept2 hK5 (fun hh => hh.1 rfl) (fun hh => hh.2.1 rfl) hB5)
            clear c0 c1 hR5 hK5 hB5
            go_upto_region 15 with fail
            obtain ⟨W, hW⟩ : ∃ W, w5.alloc (.cells #[.int .i64 next, .slice A5 act.length c5] 37) = W := ⟨_, rfl⟩
            obtain ⟨g5, hg5⟩ : ∃ g5, w5.heap.size = g5 := ⟨_, rfl⟩
            rw [hW, hg5]
            have HN5 := Aside0.mk (show W.heap[g5]? = some (.cells #[.int .i64 next, .slice A5 act.length c5] 37 (0, 0)) by rw [← hW, ← hg5]; exact blk_new _ _)
            have HBW := Aside0.mk (show Below w5.heap.size w5 W by rw [← hW]; exact (Below.refl _ _).alloc (Nat.le_refl _) _)
            have HX5 := Aside0.mk (blk_below HD5.out.1 HBW.out)
            clear hW hg5
            have c0 : W.cell? ⟨xb, 0, none⟩ = some (.int .i64 next) := blk_cell HX5.out 0
            have c1 : W.cell? ⟨xb, 1, none⟩ = some v := blk_cell HX5.out 1
            have f0 : W.frozen? ⟨xb, 0, none⟩ = false := blk_frozen HX5.out 0
            have f1 : W.frozen? ⟨xb, 1, none⟩ = false := blk_frozen HX5.out 1
            have z0 : W.cell? ⟨g5, 0, none⟩ = some (.int .i64 next) := blk_cell HN5.out 0
            have z1 : W.cell? ⟨g5, 1, none⟩ = some (.slice A5 act.length c5) := blk_cell HN5.out 1
            go_wp2
            go_meet
            case rel =>
              refine ⟨next, act, n, .slice A5 act.length c5, ⟨by have := HJ.out; omega⟩, HOK, ?_, ?_⟩
              · exact ⟨(HS5.out.go HBW.out).set2 HD.out.hp HD.out.hb HD.out.base _ _⟩
              · exact ⟨Doc.set2 HX5.out (Kd.R_below HD5.out.2 HBW.out) HD.out.hp HD.out.hb HD.out.base⟩
        · have kk1 : (d.1 == 1) = false := by simpa using k1
          by_cases k2 : d.1 = 2
          · have kk2 : (d.1 == 2) = true := by simpa using k2
            clear k1 k2
            go_wp2_with fail
            refine (done_calls d.2 HWD.out _ HS.out.clk).mono ?_
            rintro e w4 ⟨rfl, hcl, hmv⟩
            have HS4 := Aside0.mk (HS.out.moved hcl hmv)
            have hd4 := HD.out.moved hmv
            have HI := Aside0.mk (doc_done next d.2 act (by have := HOK.out.len; have := HJ.out; have := HN.out; omega) 1002 (by have := HOK.out.len; have := HJ.out; have := HN.out; omega))
            have HOK4 := Aside0.mk (show Okp n next (act.filter fun t => t ≠ d.2) from ⟨rising_filter HOK.out.rising _, fun t ht => HOK.out.below t (List.mem_filter.1 ht).1, HOK.out.one, HOK.out.most, Nat.le_trans (List.length_filter_le _ _) HOK.out.len⟩)
            obtain ⟨ac2, hac⟩ : ∃ y, act.filter fun t => t ≠ d.2 = y := ⟨_, rfl⟩
            obtain ⟨bb, hbb⟩ : ∃ y, decide (d.2 ∈ act) = y := ⟨_, rfl⟩
            rw [hac] at HS4 HI HOK4
            rw [hbb] at HI ⊢
            obtain ⟨A4, c4, rfl⟩ := Kd.R_slice hd4.row
            have HD4 := Aside0.mk hd4
            have hx1' : w4.cell? ⟨(ad.add (j.toNat * 2)).block, (ad.add (j.toNat * 2)).off + 1, none⟩ = some (.int .i64 d.2) := by
              obtain ⟨ad', e', _, hq⟩ := dl_at (Kd.C_below HR.out HS4.out.below) j h0 h1
              obtain rfl : ad = ad' := by injection e'
              exact hq.trans (by rw [HDD.out])
            clear hcl hmv hac hbb hd4 hx0 hx1
            have c0 : w4.cell? ⟨xb, 0, none⟩ = some (.int .i64 next) := blk_cell HD4.out.box 0
            have c1 : w4.cell? ⟨xb, 1, none⟩ = some (.slice A4 act.length c4) := blk_cell HD4.out.box 1
            go_upto_region 20 with fail
            obtain ⟨hCl, hCc, hCC⟩ := Kd.R_reads' HD4.out.row
            have HCC := Aside0.mk hCC
            have HCL := Aside0.mk hCc
            clear hCl hCc hCC
            have q0 : (0 : Int) ≤ j := h0
            have n0 := World.new_ne w4 _ c0
            have n1 := World.new_ne w4 _ c1
            have n2 := World.new_ne w4 _ hx1'
            go_cut [15, 16] (fun v15 v16 wc => ∃ (g : Nat) (A5 : Option Addr) (c5 : Nat), v15 = .pointer (some ⟨g, 0, none⟩) ∧ v16 = .bool bb ∧ Aside0 (wc.heap[g]? = some (.cells #[.int .i64 next, .slice A5 ac2.length c5] 37 (0, 0))) ∧ Aside0 (Below w4.heap.size w4 wc) ∧ Aside0 (Kd.R (Kd.int .i64) 2 wc w4.heap.size (fun _ => True) (.slice A5 ac2.length c5) ac2) ∧ Aside0 (w4.heap.size ≤ g))
            case first =>
              go_region_held3 (fun w' => w'.cell? ⟨xb, 0, none⟩ = some (.int .i64 next) ∧ w'.cell? ⟨xb, 1, none⟩ = some (.slice A4 act.length c4) ∧ w'.cell? ⟨(ad.add (j.toNat * 2)).block, (ad.add (j.toNat * 2)).off + 1, none⟩ = some (.int .i64 d.2)) (go_keep)
                (first
                | (go_at_call 18; refine (ogiveref09_Done.calls 1002 next A4 c4 act d.2 _ _ _ (w4.drewN 1) (Kd.C_drewN HCC.out 1) HCL.out HI.out).mono ?_; rintro e w5 ⟨v5, rfl, hR5, hB5⟩; obtain ⟨A5, c5, rfl⟩ := Kd.R_slice hR5; have u0 := pw_cell_below hB5 c0; have u1 := pw_cell_below hB5 c1; have u2 := pw_cell_below hB5 hx1')
                | (go_at_call 18; refine (ogiveref09_Done.calls 1002 next A4 c4 act d.2 _ _ _ ((w4.alloc (.cells #[.int .i64 0, .slice none 0 0] 37)).drewN 1) (Kd.C_drewN (Kd.C_alloc HCC.out _) 1) HCL.out HI.out).mono ?_; rintro e w5 ⟨v5, rfl, hR5, hB5⟩; obtain ⟨A5, c5, rfl⟩ := Kd.R_slice hR5; have b4 := (((Below.refl w4.heap.size w4).alloc (Nat.le_refl _) (.cells #[.int .i64 0, .slice none 0 0] 37))); have u0 := pw_cell_below hB5 (show ((w4.alloc (.cells #[.int .i64 0, .slice none 0 0] 37)).drewN 1).cell? _ = _ from pw_cell_below b4 c0); have u1 := pw_cell_below hB5 (show ((w4.alloc (.cells #[.int .i64 0, .slice none 0 0] 37)).drewN 1).cell? _ = _ from pw_cell_below b4 c1); have u2 := pw_cell_below hB5 (show ((w4.alloc (.cells #[.int .i64 0, .slice none 0 0] 37)).drewN 1).cell? _ = _ from pw_cell_below b4 hx1'); have bg := blk_below (w := (w4.alloc (.cells #[.int .i64 0, .slice none 0 0] 37)).drewN 1) (blk_new w4 (.cells #[.int .i64 0, .slice none 0 0] 37)) hB5; have v0 := blk_cell bg 0; have v1 := blk_cell bg 1; have v2 := blk_frozen bg 0; have v3 := blk_frozen bg 1; simp only [List.getElem?_toArray, List.getElem?_cons_zero, List.getElem?_cons_succ] at v0 v1))
              · go_wp2_with fail
                go_meet
                case rel =>
                  have b5 : Below w4.heap.size w4 w5 := (pw_below_drewN (Below.refl _ _) 1).trans hB5
                  exact ⟨w5.heap.size, A5, c5, rfl, rfl, ⟨blk_new _ _⟩, ⟨b5.alloc b5.size _⟩, ⟨Kd.R_alloc hR5 _⟩, ⟨b5.size⟩⟩
              · go_wp2_with fail
                go_meet
                case rel =>
                  have b5 : Below w4.heap.size w4 w5 := (pw_below_drewN b4 1).trans (hB5.mono (by simp))
                  have r5 := R_lower hR5 (show w4.heap.size ≤ _ by simp)
                  refine ⟨w4.heap.size, A5, c5, rfl, rfl, ⟨blk_set (blk_set bg 0 _) 1 _⟩, ⟨(b5.setCell (Nat.le_refl _) _).setCell (Nat.le_refl _) _⟩, ⟨Kd.R_mono (Kd.R_step r5 (fun k hk hlt => ?_)) (fun _ _ => trivial)⟩, ⟨Nat.le_refl _⟩⟩
                  have hne : k ≠ w4.heap.size := by simp at hk; omega
                  exact (Below.heap_setCell _ _ _ k hne).trans (Below.heap_setCell _ _ _ k hne)
            case rest =>
              obtain ⟨g5, A5, c5, rfl, rfl, HG5, HBW, HRW, HG0⟩ := hcut
              have HX5 := Aside0.mk (blk_below HD4.out.box HBW.out)
              clear c0 c1 n0 n1 n2 hx1' q0
              have hxg : xb ≠ g5 := by have := HG0.out; have := blk_lt HD4.out.box; omega
              have c0 : wc.cell? ⟨xb, 0, none⟩ = some (.int .i64 next) := blk_cell HX5.out 0
              have c1 : wc.cell? ⟨xb, 1, none⟩ = some (.slice A4 act.length c4) := blk_cell HX5.out 1
              have f0 : wc.frozen? ⟨xb, 0, none⟩ = false := blk_frozen HX5.out 0
              have f1 : wc.frozen? ⟨xb, 1, none⟩ = false := blk_frozen HX5.out 1
              have z0 : wc.cell? ⟨g5, 0, none⟩ = some (.int .i64 next) := blk_cell HG5.out 0
              have z1 : wc.cell? ⟨g5, 1, none⟩ = some (.slice A5 ac2.length c5) := blk_cell HG5.out 1
              go_wp2
              go_meet
              case rel =>
                refine ⟨next, ac2, n, .slice A5 ac2.length c5, ⟨by have := HJ.out; omega⟩, HOK4, ?_, ?_⟩
                · exact ⟨(HS4.out.go HBW.out).set2 HD.out.hp HD.out.hb HD.out.base _ _⟩
                · exact ⟨Doc.set2 HX5.out (Kd.R_mono (R_lower HRW.out HS4.out.below.size) (fun k hk => by have h1 := blk_lt HS4.out.clk.box; have h2 := HS4.out.clk.own.lt; have h3 := blk_lt HD4.out.box; exact ⟨by omega, by omega, by omega⟩)) HD.out.hp HD.out.hb HD.out.base⟩
          · have kk2 : (d.1 == 2) = false := by simpa using k2
            clear k1 k2
            go_wp2_with fail
            refine (raise_calls d.2 _ HS.out.clk).mono ?_
            rintro e w4 ⟨rfl, hcl, hgr⟩
            have hmv : Moved wr w4 p b := Moved.of_p hgr
            have HS4 := Aside0.mk (HS.out.moved hcl hmv)
            have HD4 := Aside0.mk (HD.out.moved hmv)
            have HI := Aside0.mk (doc_raise next d.2 act)
            have hrd : next ≤ raised next d.2 ∧ raised next d.2 ≤ 1099511627777 := by have := HOK.out.most; unfold raised; split <;> omega
            have HOK4 := Aside0.mk (show Okp n (raised next d.2) act from ⟨HOK.out.rising, fun t ht => by have := HOK.out.below t ht; omega, by have := HOK.out.one; omega, hrd.2, HOK.out.len⟩)
            obtain ⟨nx2, hnx⟩ : ∃ y, raised next d.2 = y := ⟨_, rfl⟩
            rw [hnx] at HS4 HI HOK4
            have hx1' : w4.cell? ⟨(ad.add (j.toNat * 2)).block, (ad.add (j.toNat * 2)).off + 1, none⟩ = some (.int .i64 d.2) := by
              obtain ⟨ad', e', _, hq⟩ := dl_at (Kd.C_below HR.out HS4.out.below) j h0 h1
              obtain rfl : ad = ad' := by injection e'
              exact hq.trans (by rw [HDD.out])
            clear hcl hmv hgr hnx hrd hx0 hx1
            have c0 : w4.cell? ⟨xb, 0, none⟩ = some (.int .i64 next) := blk_cell HD4.out.box 0
            have c1 : w4.cell? ⟨xb, 1, none⟩ = some v := blk_cell HD4.out.box 1
            go_upto_region 11 with fail
            have q0 : (0 : Int) ≤ j := h0
            have f0 : w4.frozen? ⟨xb, 0, none⟩ = false := blk_frozen HD4.out.box 0
            have f1 : w4.frozen? ⟨xb, 1, none⟩ = false := blk_frozen HD4.out.box 1
            go_region_with ((go_at_call 20; refine (ogiveref09_Raise.calls next _ v act d.2 _ _ w (w4.drewN 1) (pw_below_drewN HS4.out.below 1) (Kd.R_drewN HD4.out.row 1) HI.out).mono ?_; rintro e w5 ⟨v5, rfl, hR5, hB5, hK5⟩; obtain ⟨A5, c5, rfl⟩ := Kd.R_slice hR5; have HK5 := Aside0.mk (show Kept w4 w5 _ from hK5); have HB5 := Aside0.mk hB5; have HR5 := Aside0.mk hR5; have bx := blk_kept HD4.out.box HK5.out (fun hh => hh.2.2 rfl); have y0 := blk_cell bx 0; have y1 := blk_cell bx 1; have y2 := blk_frozen bx 0; have y3 := blk_frozen bx 1; simp only [List.getElem?_toArray, List.getElem?_cons_zero, List.getElem?_cons_succ] at y0 y1; have HBX := Aside0.mk bx; clear bx hR5 hB5 hK5))
            all_goals
              go_wp2_with fail
              go_meet
              case rel =>
                have hk := HD4.out.kept2 HK5.out HR5.out (blk_lt HS4.out.clk.box) HS4.out.clk.own.lt
                have hs := HS4.out.kept2 HK5.out (fun hh => hh.1 rfl) (fun hh => hh.2.1 rfl) HB5.out
                refine ⟨nx2, act, n, .slice A5 act.length c5, ⟨by have := HJ.out; omega⟩, HOK4, ?_, ?_⟩
                · exact ⟨hs.set2 HD.out.hp HD.out.hb HD.out.base _ _⟩
                · exact ⟨Doc.set2 hk.1 hk.2 HD.out.hp HD.out.hb HD.out.base⟩
      case rest =>
        clear hx0 hx1 HD HS HOK HWD HDD
        obtain ⟨next, act, n, v, HNJ, HOK, HS, HD⟩ := hcut
        obtain ⟨A, c, rfl⟩ := Kd.R_slice HD.out.row
        obtain ⟨_, hAc, hAC⟩ := Kd.R_reads' HD.out.row
        have HAC := Aside0.mk hAC
        have HAC0 := Aside0.mk hAc
        have HN1 := Aside0.mk (show n ≤ 1000 by have := HNJ.out; have := HJ.out; have := HN.out; omega)
        have HLE := Aside0.mk (show act.length ≤ 1000 by have := HOK.out.len; have := HN1.out; omega)
        clear hAc hAC v
        have c0 : wc.cell? ⟨xb, 0, none⟩ = some (.int .i64 next) := blk_cell HD.out.box 0
        have c1 : wc.cell? ⟨xb, 1, none⟩ = some (.slice A act.length c) := blk_cell HD.out.box 1
        have C15 := Aside0.mk (show ∀ W, Below wc.heap.size wc W → Calls Try.prog 15 #[.pointer (some ⟨p, 0, none⟩)] W fun e w' => e = .returned (.int .i64 next) ∧ w' = W from fun W hW => next_calls W (HS.out.go hW).clk)
        have C14 := Aside0.mk (show ∀ W, Below wc.heap.size wc W → Calls Try.prog 14 #[.pointer (some ⟨p, 0, none⟩)] W fun e w' => e = .returned (.int .i64 (least next act)) ∧ Below wc.heap.size wc w' from fun W hW => (min_tells W (HS.out.go hW).clk HN1.out HOK.out.rising).mono fun e w' h => ⟨h.1, hW.trans (h.2.mono hW.size)⟩)
        have C13 := Aside0.mk (show ∀ W, Below wc.heap.size wc W → Calls Try.prog 13 #[.pointer (some ⟨p, 0, none⟩)] W fun e w' => ∃ B k, e = .returned (.slice B act.length k) ∧ act.length ≤ k ∧ Kd.C (Kd.int .i64) w' B act.length act ∧ Below wc.heap.size wc w' from fun W hW => (active_tells W (HS.out.go hW).clk HN1.out HOK.out.rising).mono fun e w' h => by
          obtain ⟨B, k, h1, h2, h3, h4⟩ := h
          exact ⟨B, k, h1, h2, h3, hW.trans (h4.mono hW.size)⟩)
        have C21 := Aside0.mk (show ∀ W, Below wc.heap.size wc W → Calls Try.prog 21 #[.agg #[.int .i64 next, .slice A act.length c]] W fun e w' => e = .returned (.int .i64 (least next act)) ∧ Below wc.heap.size wc w' from fun W hW => (ogiveref09_Min.calls next A c act _ W (Kd.C_below HAC.out hW) HAC0.out (doc_min next act)).mono fun e w' h => ⟨h.1, hW.trans (h.2.mono hW.size)⟩)
        have C22 := Aside0.mk (show ∀ W B k, Below wc.heap.size wc W → act.length ≤ k → Kd.C (Kd.int .i64) W B act.length act → Calls Try.prog 22 #[.slice B act.length k, .slice A act.length c] W fun e w' => e = .returned (.bool true) ∧ Below wc.heap.size wc w' from fun W B k hW hk hC => (ogiveref09_Same.calls 1002 B k act A c act true W hC hk (Kd.C_below HAC.out hW) HAC0.out (same_tells act HLE.out 1002 (by have := HLE.out; omega))).mono fun e w' h => ⟨h.1, hW.trans (h.2.below.mono hW.size)⟩)
        go_wp2_with fail
        have hb0 : Below wc.heap.size wc wc.drew := pw_below_drewN (Below.refl _ _) 1
        go_region_held3 (fun w' => Below wc.heap.size wc w' ∧ w'.cell? ⟨xb, 0, none⟩ = some (.int .i64 next) ∧ w'.cell? ⟨xb, 1, none⟩ = some (.slice A act.length c))
          (first | (refine ⟨?_, ?_, ?_⟩ <;> assumption) | go_keep)
          (first
          | (go_at_call 15; refine (C15.out _ ?_).mono ?_; (first | assumption | exact Below.refl _ _ | exact pw_below_drewN (Below.refl _ _) 1); rintro e w' ⟨rfl, rfl⟩)
          | (go_at_call 14; refine (C14.out _ ?_).mono ?_; (first | assumption | exact Below.refl _ _ | exact pw_below_drewN (Below.refl _ _) 1); rintro e wm ⟨rfl, hbm⟩; have m0 := pw_cell_below hbm c0; have m1 := pw_cell_below hbm c1)
          | (go_at_call 21; refine (C21.out _ ?_).mono ?_; (first | assumption | exact Below.refl _ _ | exact pw_below_drewN (Below.refl _ _) 1); rintro e wn ⟨rfl, hbn⟩; have n0 := pw_cell_below hbn c0; have n1 := pw_cell_below hbn c1)
          | (go_at_call 13; refine (C13.out _ ?_).mono ?_; (first | assumption | exact Below.refl _ _ | exact pw_below_drewN (Below.refl _ _) 1); rintro e wa ⟨B, k, rfl, hk, hC, hba⟩; have a0 := pw_cell_below hba c0; have a1 := pw_cell_below hba c1)
          | (go_at_call 22; refine (C22.out _ _ _ ?_ ‹_› ?_).mono ?_; (assumption); (assumption); rintro e ws ⟨rfl, hbs⟩; have s0 := pw_cell_below hbs c0; have s1 := pw_cell_below hbs c1))
        have HBS := Aside0.mk hbs
        go_wp2_with fail
        go_roundg g
        case measure => omega
        case rel => exact ⟨j + 1, next, act, n, .slice A act.length c, (by first | rfl | rw [e4]), ⟨by have h1 := HJ.out; have h2 := HNJ.out; push_cast at h1 ⊢; omega⟩, HOK, ⟨HS.out.go HBS.out⟩, ⟨HD.out.go HBS.out⟩⟩

theorem plays_calls (a0 : Int) (A1 : Option Addr) (c1 : Nat) (l : List (Int × Int)) (w0 : (Lit.int .i64 a0).wf = true) (hg : ∀ x ∈ l, (Lit.int .i64 x.2).wf = true) (w : World) (hr : Kd.C kdeed w A1 l.length l) (hc : l.length ≤ c1) :
    Calls Try.prog 5 #[.int .i64 a0, .slice A1 l.length c1] w fun e w' => e = .returned (.bool true) ∧ Below w.heap.size w w' := by
  by_cases h : 1 ≤ a0 ∧ a0 ≤ 1099511627777
  · exact plays_some a0 A1 c1 l h.1 h.2 hg w hr hc
  · exact plays_none a0 A1 c1 l h w hr hc
end Go.Proofs.Ytoejaknfoniphaa
