-- Written for this claim by a program of this seat's (wip/tools), by way of the kit's printing program; not one of its printed files. Lean checks it.
import Derived.Test.YtjomfmhgiecafaaPx0
import Derived.Test.YtjomfmhgiecafaaPx3
import Derived.Test.YtjomfmhgiecafaaPx7
import Derived.Test.YtjomfmhgiecafaaPx22
namespace Go.Proofs.Ytjomfmhgiecafaa.P
open Go.RowKit Go.Proofs.YtjomfmhgiecafaaW.PrintWords Go.Proofs.YtjomfmhgiecafaaW.PrintLast Go.Proofs.YtjomfmhgiecafaaW.PrintMore
attribute [local go_sem] max2_int min2_int max_two min_two max_three min_three max_four min_four   -- for this text's walks alone
set_option linter.unusedVariables false
set_option linter.unusedSimpArgs false

/-! ### ogivelaw18_GateAlone: function 7 -/
mutual
def ogivelaw18_GateAlone.l0 : Nat → List (S29) → Bool → Int → Int → Bool → Int → Option (Bool)
  | 0, _, _, _, _, _, _ => none
  | k + 1, x0, x5, x6, x7, x8, x9 => if x9 < (x0.length : Int) then (if x8 = true then (ogivelaw18_GateAlone.l0 k x0 x5 x6 x7 true (wrap64 (x9 + 1))) else (if 0 ≤ x9 then (ogivelaw18_GateAlone.l0 k x0 x5 x6 x7 ((rd_T29 x0 x9).f3) (wrap64 (x9 + 1))) else (none))) else (ogivelaw18_GateAlone.l1 k x0 x5 x6 x7 x8 0)
def ogivelaw18_GateAlone.l1 : Nat → List (S29) → Bool → Int → Int → Bool → Int → Option (Bool)
  | 0, _, _, _, _, _, _ => none
  | k + 1, x0, x5, x6, x7, x8, x10 => if x10 < (x0.length : Int) then (if 0 ≤ x10 then (if ((rd_T29 x0 x10).f0) = 0 then ((gate_May.f k x0 x6 x10).bind fun t155 => (if x7 < 0 then (if (t155 != false) = true then (some false) else (if x7 ≥ 0 then (if x10 = x7 then (ogivelaw18_GateAlone.l1 k x0 x5 x6 x7 x8 (wrap64 (x10 + 1))) else (ogivelaw18_GateAlone.l1 k x0 x5 x6 x7 x8 (wrap64 (x10 + 1)))) else (ogivelaw18_GateAlone.l1 k x0 x5 x6 x7 x8 (wrap64 (x10 + 1))))) else (if x7 ≥ 0 then (if x10 = x7 then (if (t155 != false) = true then (some false) else (ogivelaw18_GateAlone.l1 k x0 x5 x6 x7 x8 (wrap64 (x10 + 1)))) else (if (t155 != false) = true then (some false) else (ogivelaw18_GateAlone.l1 k x0 x5 x6 x7 x8 (wrap64 (x10 + 1))))) else (ogivelaw18_GateAlone.l1 k x0 x5 x6 x7 x8 (wrap64 (x10 + 1)))))) else (if ((rd_T29 x0 x10).f3 = true) then ((gate_May.f k x0 x6 x10).bind fun t157 => (if x7 < 0 then (if (t157 != false) = true then (some false) else (if x7 ≥ 0 then (if x10 = x7 then (ogivelaw18_GateAlone.l1 k x0 x5 x6 x7 x8 (wrap64 (x10 + 1))) else (ogivelaw18_GateAlone.l1 k x0 x5 x6 x7 x8 (wrap64 (x10 + 1)))) else (ogivelaw18_GateAlone.l1 k x0 x5 x6 x7 x8 (wrap64 (x10 + 1))))) else (if x7 ≥ 0 then (if x10 = x7 then (if (t157 != false) = true then (some false) else (ogivelaw18_GateAlone.l1 k x0 x5 x6 x7 x8 (wrap64 (x10 + 1)))) else (if (t157 != false) = true then (some false) else (ogivelaw18_GateAlone.l1 k x0 x5 x6 x7 x8 (wrap64 (x10 + 1))))) else (ogivelaw18_GateAlone.l1 k x0 x5 x6 x7 x8 (wrap64 (x10 + 1)))))) else ((gate_May.f k x0 x6 x10).bind fun t159 => (if x7 < 0 then (if (t159 != (decide (((rd_T29 x0 x10).f2) ≤ 0))) = true then (some false) else (if x7 ≥ 0 then (if x10 = x7 then (if ((rd_T29 x0 x10).f2) ≤ 0 then (if (t159 != (!x8)) = true then (some false) else (ogivelaw18_GateAlone.l1 k x0 x5 x6 x7 x8 (wrap64 (x10 + 1)))) else (if (t159 != false) = true then (some false) else (ogivelaw18_GateAlone.l1 k x0 x5 x6 x7 x8 (wrap64 (x10 + 1))))) else (if (t159 != false) = true then (some false) else (ogivelaw18_GateAlone.l1 k x0 x5 x6 x7 x8 (wrap64 (x10 + 1))))) else (ogivelaw18_GateAlone.l1 k x0 x5 x6 x7 x8 (wrap64 (x10 + 1))))) else (if x7 ≥ 0 then (if x10 = x7 then (if ((rd_T29 x0 x10).f2) ≤ 0 then (if (t159 != (!x8)) = true then (some false) else (ogivelaw18_GateAlone.l1 k x0 x5 x6 x7 x8 (wrap64 (x10 + 1)))) else (if (t159 != false) = true then (some false) else (ogivelaw18_GateAlone.l1 k x0 x5 x6 x7 x8 (wrap64 (x10 + 1))))) else (if (t159 != false) = true then (some false) else (ogivelaw18_GateAlone.l1 k x0 x5 x6 x7 x8 (wrap64 (x10 + 1))))) else (ogivelaw18_GateAlone.l1 k x0 x5 x6 x7 x8 (wrap64 (x10 + 1)))))))) else (none)) else (if x5 = true then ((gate_May.f k x0 x6 (-1)).bind fun t160 => (if t160 = true then (some false) else ((gate_May.f k x0 x6 (x0.length : Int)).bind fun t161 => (some (!t161))))) else (some false))
end
def ogivelaw18_GateAlone.f (k : Nat) (l0 : List (S29)) (a1 : Int) : Option (Bool) := (ogivelaw18_awake.f).bind fun t151 => (if (l0.length : Int) > 20 then (some t151) else ((gate_Elder.f k l0 (wrap64 (1 + (wrap64 (Int.tmod a1 9))))).bind fun t152 => (ogivelaw18_GateAlone.l0 k l0 t151 (wrap64 (1 + (wrap64 (Int.tmod a1 9)))) t152 false 0)))
theorem ogivelaw18_GateAlone.mono_l : ∀ k, (∀ y0 y1 y2 y3 y4 y5, LeO (ogivelaw18_GateAlone.l0 k y0 y1 y2 y3 y4 y5) (ogivelaw18_GateAlone.l0 (k + 1) y0 y1 y2 y3 y4 y5)) ∧ (∀ y0 y1 y2 y3 y4 y5, LeO (ogivelaw18_GateAlone.l1 k y0 y1 y2 y3 y4 y5) (ogivelaw18_GateAlone.l1 (k + 1) y0 y1 y2 y3 y4 y5))
  | 0 => ⟨fun _ _ _ _ _ _ r h => by simp [ogivelaw18_GateAlone.l0] at h, fun _ _ _ _ _ _ r h => by simp [ogivelaw18_GateAlone.l1] at h⟩
  | k + 1 => by
    obtain ⟨ih0, ih1⟩ := ogivelaw18_GateAlone.mono_l k
    refine ⟨?_, ?_⟩
    · intro y0 y1 y2 y3 y4 y5
      unfold ogivelaw18_GateAlone.l0
      repeat' first
      | (with_reducible exact ih0 _ _ _ _ _ _)
      | (with_reducible exact ih1 _ _ _ _ _ _)
      | (with_reducible exact gate_Elder.mono _ _ _)
      | (with_reducible exact gate_May.mono _ _ _ _)
      | (with_reducible exact LeO.refl _)
      | (with_reducible exact LeO.none _)
      | (with_reducible refine LeO.ite ?_ ?_)
      | (with_reducible refine LeO.bind ?_ (fun _ => ?_))
      | exact ih0 _ _ _ _ _ _
      | exact ih1 _ _ _ _ _ _
      | exact gate_Elder.mono _ _ _
      | exact gate_May.mono _ _ _ _
      | exact LeO.none _
      | refine LeO.ite ?_ ?_
      | refine LeO.bind ?_ (fun _ => ?_)
    · intro y0 y1 y2 y3 y4 y5
      unfold ogivelaw18_GateAlone.l1
      repeat' first
      | (with_reducible exact ih0 _ _ _ _ _ _)
      | (with_reducible exact ih1 _ _ _ _ _ _)
      | (with_reducible exact gate_Elder.mono _ _ _)
      | (with_reducible exact gate_May.mono _ _ _ _)
      | (with_reducible exact LeO.refl _)
      | (with_reducible exact LeO.none _)
      | (with_reducible refine LeO.ite ?_ ?_)
      | (with_reducible refine LeO.bind ?_ (fun _ => ?_))
      | exact ih0 _ _ _ _ _ _
      | exact ih1 _ _ _ _ _ _
      | exact gate_Elder.mono _ _ _
      | exact gate_May.mono _ _ _ _
      | exact LeO.none _
      | refine LeO.ite ?_ ?_
      | refine LeO.bind ?_ (fun _ => ?_)
theorem ogivelaw18_GateAlone.mono : ∀ a0 a1 k, LeO (ogivelaw18_GateAlone.f k a0 a1) (ogivelaw18_GateAlone.f (k + 1) a0 a1) := by
  intro a0 a1 k
  obtain ⟨ih0, ih1⟩ := ogivelaw18_GateAlone.mono_l k
  unfold ogivelaw18_GateAlone.f
  repeat' first
      | (with_reducible exact ih0 _ _ _ _ _ _)
      | (with_reducible exact ih1 _ _ _ _ _ _)
      | (with_reducible exact gate_Elder.mono _ _ _)
      | (with_reducible exact gate_May.mono _ _ _ _)
      | (with_reducible exact LeO.refl _)
      | (with_reducible exact LeO.none _)
      | (with_reducible refine LeO.ite ?_ ?_)
      | (with_reducible refine LeO.bind ?_ (fun _ => ?_))
      | exact ih0 _ _ _ _ _ _
      | exact ih1 _ _ _ _ _ _
      | exact gate_Elder.mono _ _ _
      | exact gate_May.mono _ _ _ _
      | exact LeO.none _
      | refine LeO.ite ?_ ?_
      | refine LeO.bind ?_ (fun _ => ?_)
set_option maxHeartbeats 8000000 in
set_option maxRecDepth 100000 in
theorem ogivelaw18_GateAlone.calls (k : Nat) (A0 : Option Addr) (c0 : Nat) (l0 : List (S29)) (a1 : Int) (r : Bool) (w : World) (hr0 : Kd.C k29 w A0 l0.length l0) (hc0 : l0.length ≤ c0) (h : ogivelaw18_GateAlone.f k l0 a1 = some r) :
    Calls Try.prog 7 #[.slice A0 l0.length c0, .int .u8 a1] w fun e w' => e = .returned (.bool r) ∧ Below w.heap.size w w' := by
  have HR0 := Aside0.mk hr0
  have HC0 := Aside0.mk hc0
  clear hr0 hc0
  have HB := Aside0.mk (Below.refl w.heap.size w)
  have H : ((ogivelaw18_awake.f).bind fun t151 => (if (l0.length : Int) > 20 then (some t151) else ((gate_Elder.f k l0 (wrap64 (1 + (wrap64 (Int.tmod a1 9))))).bind fun t152 => (ogivelaw18_GateAlone.l0 k l0 t151 (wrap64 (1 + (wrap64 (Int.tmod a1 9)))) t152 false 0)))) = some r := h
  clear h
  replace H := Option.bind_eq_some_iff.mp H
  obtain ⟨t151, A30, H⟩ := H
  replace H : (if (l0.length : Int) > 20 then (some t151) else ((gate_Elder.f k l0 (wrap64 (1 + (wrap64 (Int.tmod a1 9))))).bind fun t152 => (ogivelaw18_GateAlone.l0 k l0 t151 (wrap64 (1 + (wrap64 (Int.tmod a1 9)))) t152 false 0))) = some r := H
  have A3 := Aside0.mk A30
  clear A30
  by_cases c4 : (l0.length : Int) > 20
  · rw [if_pos c4] at H
    have c4b0 : decide (20 < (l0.length : Int)) = true := decide_eq_true c4
    have c4b1 : decide (20 < l0.length) = true := decide_eq_true (by omega)
    clear c4
    obtain rfl := Option.some.inj H
    go_enter Try.func7, Try.ntmps7
    go_wp2_with (first | ((with_reducible refine gate_callee (f := 8) rfl ?_); refine goesL_ (some 13) rfl rfl Try.func8 (by kernel_rfl) rfl #[] rfl (by (try simp only [List.map_toArray, List.map_cons, List.map_nil]); first | done | rfl | (simp only [List.length_drop, List.length_take]; rfl)) ?_; (with_reducible refine (ogivelaw18_awake.calls  t151 _ A3.out).mono ?_); rintro e w5 ⟨rfl, hb⟩; refine ⟨_, rfl, ?_⟩; have n0_ := Aside0.mk (below_step (by repeat (first | (with_reducible first | exact HB.out | apply below_alloc | apply pw_below_drewN | apply below_drew1) | exact HB.out)) hb); clear HB; have HB := n0_; clear n0_; (try clear hb); (try clear hb2); (try clear hk); (try clear hi)))
    go_ret
    exact ⟨by first | rfl | (simp [errW_none, errW_some] <;> rfl) | (simp [*, errW_none, errW_some] <;> rfl), by repeat (first | (with_reducible first | exact HB.out | apply below_alloc | apply pw_below_drewN | apply below_drew1) | exact HB.out)⟩
  · rw [if_neg c4] at H
    have c4b0 : decide (20 < (l0.length : Int)) = false := decide_eq_false c4
    have c4b1 : decide (20 < l0.length) = false := decide_eq_false (by omega)
    clear c4
    replace H := Option.bind_eq_some_iff.mp H
    obtain ⟨t152, A60, H⟩ := H
    replace H : (ogivelaw18_GateAlone.l0 k l0 t151 (wrap64 (1 + (wrap64 (Int.tmod a1 9)))) t152 false 0) = some r := H
    have A6 := Aside0.mk A60
    clear A60
    have H' := Aside0.mk H
    clear H
    go_enter Try.func7, Try.ntmps7
    go_wp2_with (first | ((with_reducible refine gate_callee (f := 8) rfl ?_); refine goesL_ (some 13) rfl rfl Try.func8 (by kernel_rfl) rfl #[] rfl (by (try simp only [List.map_toArray, List.map_cons, List.map_nil]); first | done | rfl | (simp only [List.length_drop, List.length_take]; rfl)) ?_; (with_reducible refine (ogivelaw18_awake.calls  t151 _ A3.out).mono ?_); rintro e w7 ⟨rfl, hb⟩; refine ⟨_, rfl, ?_⟩; have n0_ := Aside0.mk (below_step (by repeat (first | (with_reducible first | exact HB.out | apply below_alloc | apply pw_below_drewN | apply below_drew1) | exact HB.out)) hb); clear HB; have HB := n0_; clear n0_; (try clear hb); (try clear hb2); (try clear hk); (try clear hi)) | ((with_reducible refine gate_callee (f := 10) rfl ?_); refine goesL_ (some 24) rfl rfl Try.func10 (by kernel_rfl) rfl #[.slice A0 l0.length c0, .int .i64 (wrap64 (1 + (wrap64 (Int.tmod a1 9))))] rfl (by (try simp only [List.map_toArray, List.map_cons, List.map_nil]); first | done | rfl | (simp only [List.length_drop, List.length_take]; rfl)) ?_; (with_reducible refine (gate_Elder.calls k _ _ l0 (wrap64 (1 + (wrap64 (Int.tmod a1 9)))) t152 _ ?side1 ?side2 A6.out).mono ?_); (case side1 => repeat (first | exact (Kd.C_below HR0.out HB.out) | (with_reducible refine Kd.C_alloc ?_ _) | (with_reducible refine Kd.C_drewN ?_ _) | (with_reducible refine Kd.C_drew ?_))); (case side2 => exact HC0.out); rintro e w8 ⟨rfl, hb⟩; refine ⟨_, rfl, ?_⟩; have n0_ := Aside0.mk (below_step (by repeat (first | (with_reducible first | exact HB.out | apply below_alloc | apply pw_below_drewN | apply below_drew1) | exact HB.out)) hb); clear HB; have HB := n0_; clear n0_; (try clear hb); (try clear hb2); (try clear hk); (try clear hi)))
    go_loopg [8, 9] k (fun kq v8 v9 w' => ∃ (x8_1 : Bool) (x9_1 : Int), v8 = .bool x8_1 ∧ v9 = .int .i64 x9_1 ∧ Aside0 (ogivelaw18_GateAlone.l0 kq l0 t151 (wrap64 (1 + (wrap64 (Int.tmod a1 9)))) t152 x8_1 x9_1 = some r) ∧ Aside0 (kq ≤ k) ∧ Aside0 (Below w.heap.size w w'))
    case atStart => exact ⟨(false), (0), (by first | rfl | (simp; done) | (simp [*]; done)), (by first | rfl | (simp; done) | (simp [*]; done)), H', ⟨Nat.le_refl _⟩, ⟨by repeat (first | (with_reducible first | exact HB.out | apply below_alloc | apply pw_below_drewN | apply below_drew1) | exact HB.out)⟩⟩
    case round =>
      clear H'
      try clear c1
      try clear p2
      try clear c4
      try clear c4b0
      try clear c4b1
      try clear p6
      try clear c7
      try clear c8
      obtain ⟨x8_1, x9_1, rfl, rfl, HA, HK1, HB⟩ := hrel
      cases gk with
      | zero => exact absurd HA.out (by simp [ogivelaw18_GateAlone.l0])
      | succ k1 =>
        have H := HA.out
        clear HA
        simp only [ogivelaw18_GateAlone.l0] at H
        by_cases c9 : x9_1 < (l0.length : Int)
        · rw [if_pos c9] at H
          have c9b0 : decide (x9_1 < (l0.length : Int)) = true := decide_eq_true c9
          clear c9
          by_cases c10 : x8_1 = true
          · subst c10
            have H1 : (ogivelaw18_GateAlone.l0 k1 l0 t151 (wrap64 (1 + (wrap64 (Int.tmod a1 9)))) t152 true (wrap64 (x9_1 + 1))) = some r := by rw [if_pos rfl] at H; exact H
            clear H
            have H := H1
            clear H1
            have H' := Aside0.mk H
            clear H
            go_wp2
            go_roundg k1
            case measure => have := HK1.out; omega
            case rel => exact ⟨(true), (wrap64 (x9_1 + 1)), (by first | rfl | (simp; done) | (simp [*]; done)), (by first | rfl | (simp; done) | (simp [*]; done)), H', ⟨by have := HK1.out; omega⟩, ⟨by repeat (first | (with_reducible first | exact HB.out | apply below_alloc | apply pw_below_drewN | apply below_drew1) | exact HB.out)⟩⟩
          · replace c10 := Bool.eq_false_iff.mpr c10
            subst c10
            have H1 : (if 0 ≤ x9_1 then (ogivelaw18_GateAlone.l0 k1 l0 t151 (wrap64 (1 + (wrap64 (Int.tmod a1 9)))) t152 ((rd_T29 l0 x9_1).f3) (wrap64 (x9_1 + 1))) else (none)) = some r := by rw [if_neg (show ¬ (false = true) by decide)] at H; exact H
            clear H
            have H := H1
            clear H1
            by_cases c11 : 0 ≤ x9_1
            · rw [if_pos c11] at H
              have c11b0 : decide (0 ≤ x9_1) = true := decide_eq_true c11
              clear c11
              have H' := Aside0.mk H
              clear H
              have p153 : 0 ≤ (x9_1 : Int) := of_decide_eq_true (by first | (with_reducible assumption) | assumption)
              have q153 : x9_1 < (l0.length : Int) := of_decide_eq_true (by first | (with_reducible assumption) | assumption)
              obtain ⟨ad153, e153, hx153_0, hx153_1, hx153_2, hx153_3⟩ := at_T29 HR0.out x9_1 p153 q153
              cases e153
              replace hx153_0 := (HB.out.cell (World.block_lt_of_cell? w _ hx153_0)).trans hx153_0
              replace hx153_1 := (HB.out.cell (World.block_lt_of_cell? w _ hx153_1)).trans hx153_1
              replace hx153_2 := (HB.out.cell (World.block_lt_of_cell? w _ hx153_2)).trans hx153_2
              replace hx153_3 := (HB.out.cell (World.block_lt_of_cell? w _ hx153_3)).trans hx153_3
              replace p153 := eq_true p153
              replace q153 := eq_true q153
              go_wp2
              go_roundg k1
              case measure => have := HK1.out; omega
              case rel => exact ⟨((rd_T29 l0 x9_1).f3), (wrap64 (x9_1 + 1)), (by first | rfl | (simp; done) | (simp [*]; done)), (by first | rfl | (simp; done) | (simp [*]; done)), H', ⟨by have := HK1.out; omega⟩, ⟨by repeat (first | (with_reducible first | exact HB.out | apply below_alloc | apply pw_below_drewN | apply below_drew1) | exact HB.out)⟩⟩
            · rw [if_neg c11] at H
              exact absurd H (by simp)
        · rw [if_neg c9] at H
          have c9b0 : decide (x9_1 < (l0.length : Int)) = false := decide_eq_false c9
          clear c9
          have H' := Aside0.mk H
          clear H
          go_wp2
          go_loopg [10] k1 (fun kq v10 w' => ∃ (x10_2 : Int), v10 = .int .i64 x10_2 ∧ Aside0 (ogivelaw18_GateAlone.l1 kq l0 t151 (wrap64 (1 + (wrap64 (Int.tmod a1 9)))) t152 x8_1 x10_2 = some r) ∧ Aside0 (kq ≤ k1) ∧ Aside0 (Below w.heap.size w w'))
          case atStart => exact ⟨(0), (by first | rfl | (simp; done) | (simp [*]; done)), H', ⟨Nat.le_refl _⟩, ⟨by repeat (first | (with_reducible first | exact HB.out | apply below_alloc | apply pw_below_drewN | apply below_drew1) | exact HB.out)⟩⟩
          case round =>
            clear H'
            try clear c1
            try clear p1
            try clear q1
            try clear hx1
            try clear p2
            try clear c4
            try clear c4b0
            try clear c4b1
            try clear p6
            try clear c7
            try clear c8
            try clear c9
            try clear c9b0
            try clear c10
            try clear c11
            try clear c11b0
            try clear hx153_0
            try clear hx153_1
            try clear hx153_2
            try clear hx153_3
            try clear p153
            try clear p2
            try clear p6
            try clear q153
            obtain ⟨x10_2, rfl, HA, HK2, HB⟩ := hrel
            cases gk with
            | zero => exact absurd HA.out (by simp [ogivelaw18_GateAlone.l1])
            | succ k2 =>
              have H := HA.out
              clear HA
              simp only [ogivelaw18_GateAlone.l1] at H
              by_cases c12 : x10_2 < (l0.length : Int)
              · rw [if_pos c12] at H
                have c12b0 : decide (x10_2 < (l0.length : Int)) = true := decide_eq_true c12
                clear c12
                by_cases c13 : 0 ≤ x10_2
                · rw [if_pos c13] at H
                  have c13b0 : decide (0 ≤ x10_2) = true := decide_eq_true c13
                  clear c13
                  by_cases c14 : ((rd_T29 l0 x10_2).f0) = 0
                  · rw [if_pos c14] at H
                    have c14b0 : (((rd_T29 l0 x10_2).f0) == 0) = true := beq_iff_eq.mpr c14
                    have c14b1 : (((rd_T29 l0 x10_2).f0) != 0) = false := bne_eq_false_iff_eq.mpr c14
                    clear c14
                    replace H := Option.bind_eq_some_iff.mp H
                    obtain ⟨t155, A150, H⟩ := H
                    replace H : (if t152 < 0 then (if (t155 != false) = true then (some false) else (if t152 ≥ 0 then (if x10_2 = t152 then (ogivelaw18_GateAlone.l1 k2 l0 t151 (wrap64 (1 + (wrap64 (Int.tmod a1 9)))) t152 x8_1 (wrap64 (x10_2 + 1))) else (ogivelaw18_GateAlone.l1 k2 l0 t151 (wrap64 (1 + (wrap64 (Int.tmod a1 9)))) t152 x8_1 (wrap64 (x10_2 + 1)))) else (ogivelaw18_GateAlone.l1 k2 l0 t151 (wrap64 (1 + (wrap64 (Int.tmod a1 9)))) t152 x8_1 (wrap64 (x10_2 + 1))))) else (if t152 ≥ 0 then (if x10_2 = t152 then (if (t155 != false) = true then (some false) else (ogivelaw18_GateAlone.l1 k2 l0 t151 (wrap64 (1 + (wrap64 (Int.tmod a1 9)))) t152 x8_1 (wrap64 (x10_2 + 1)))) else (if (t155 != false) = true then (some false) else (ogivelaw18_GateAlone.l1 k2 l0 t151 (wrap64 (1 + (wrap64 (Int.tmod a1 9)))) t152 x8_1 (wrap64 (x10_2 + 1))))) else (ogivelaw18_GateAlone.l1 k2 l0 t151 (wrap64 (1 + (wrap64 (Int.tmod a1 9)))) t152 x8_1 (wrap64 (x10_2 + 1))))) = some r := H
                    have A15 := Aside0.mk A150
                    clear A150
                    by_cases c16 : t152 < 0
                    · rw [if_pos c16] at H
                      have c16b0 : decide (t152 < 0) = true := decide_eq_true c16
                      clear c16
                      by_cases c17 : (t155 != false) = true
                      · rw [if_pos c17] at H
                        have c17b0 : (t155 != false) = true := c17
                        (try (have c17b1 : decide (t155 = false) = false := by simpa using c17))
                        (try (have c17b2 : (t155 == false) = false := by simpa using c17))
                        (try (have c17b3 : ¬ (t155 = false) := by simpa using c17))
                        clear c17
                        obtain rfl := Option.some.inj H
                        have p154 : 0 ≤ (x10_2 : Int) := of_decide_eq_true (by first | (with_reducible assumption) | assumption)
                        have q154 : x10_2 < (l0.length : Int) := of_decide_eq_true (by first | (with_reducible assumption) | assumption)
                        obtain ⟨ad154, e154, hx154_0, hx154_1, hx154_2, hx154_3⟩ := at_T29 HR0.out x10_2 p154 q154
                        cases e154
                        replace hx154_0 := (HB.out.cell (World.block_lt_of_cell? w _ hx154_0)).trans hx154_0
                        replace hx154_1 := (HB.out.cell (World.block_lt_of_cell? w _ hx154_1)).trans hx154_1
                        replace hx154_2 := (HB.out.cell (World.block_lt_of_cell? w _ hx154_2)).trans hx154_2
                        replace hx154_3 := (HB.out.cell (World.block_lt_of_cell? w _ hx154_3)).trans hx154_3
                        replace p154 := eq_true p154
                        replace q154 := eq_true q154
                        go_wp2_with (first | ((with_reducible refine gate_callee (f := 22) rfl ?_); refine goesL_ (some 70) rfl rfl Try.func22 (by kernel_rfl) rfl #[.slice (some ad154) l0.length c0, .int .i64 (wrap64 (1 + (wrap64 (Int.tmod a1 9)))), .int .i64 x10_2] rfl (by (try simp only [List.map_toArray, List.map_cons, List.map_nil]); first | done | rfl | (simp only [List.length_drop, List.length_take]; rfl)) ?_; (with_reducible refine (gate_May.calls k2 _ _ l0 (wrap64 (1 + (wrap64 (Int.tmod a1 9)))) x10_2 t155 _ ?side1 ?side2 A15.out).mono ?_); (case side1 => repeat (first | exact (Kd.C_below HR0.out HB.out) | (with_reducible refine Kd.C_alloc ?_ _) | (with_reducible refine Kd.C_drewN ?_ _) | (with_reducible refine Kd.C_drew ?_))); (case side2 => exact HC0.out); rintro e w18 ⟨rfl, hb⟩; refine ⟨_, rfl, ?_⟩; have n0_ := Aside0.mk (below_step (by repeat (first | (with_reducible first | exact HB.out | apply below_alloc | apply pw_below_drewN | apply below_drew1) | exact HB.out)) hb); clear HB; have HB := n0_; clear n0_; (try clear hb); (try clear hb2); (try clear hk); (try clear hi)))
                        go_ret
                        exact ⟨by first | rfl | (simp [errW_none, errW_some] <;> rfl) | (simp [*, errW_none, errW_some] <;> rfl), by repeat (first | (with_reducible first | exact HB.out | apply below_alloc | apply pw_below_drewN | apply below_drew1) | exact HB.out)⟩
                      · rw [if_neg c17] at H
                        have c17b0 : (t155 != false) = false := by simpa using c17
                        (try (have c17b1 : decide (t155 = false) = true := by simpa using c17))
                        (try (have c17b2 : (t155 == false) = true := by simpa using c17))
                        clear c17
                        by_cases c19 : t152 ≥ 0
                        · exact absurd (of_decide_eq_true c16b0) (by omega)
                        · rw [if_neg c19] at H
                          have c19b0 : decide (0 ≤ t152) = false := decide_eq_false c19
                          clear c19
                          have H' := Aside0.mk H
                          clear H
                          have p154 : 0 ≤ (x10_2 : Int) := of_decide_eq_true (by first | (with_reducible assumption) | assumption)
                          have q154 : x10_2 < (l0.length : Int) := of_decide_eq_true (by first | (with_reducible assumption) | assumption)
                          obtain ⟨ad154, e154, hx154_0, hx154_1, hx154_2, hx154_3⟩ := at_T29 HR0.out x10_2 p154 q154
                          cases e154
                          replace hx154_0 := (HB.out.cell (World.block_lt_of_cell? w _ hx154_0)).trans hx154_0
                          replace hx154_1 := (HB.out.cell (World.block_lt_of_cell? w _ hx154_1)).trans hx154_1
                          replace hx154_2 := (HB.out.cell (World.block_lt_of_cell? w _ hx154_2)).trans hx154_2
                          replace hx154_3 := (HB.out.cell (World.block_lt_of_cell? w _ hx154_3)).trans hx154_3
                          replace p154 := eq_true p154
                          replace q154 := eq_true q154
                          go_wp2_with (first | ((with_reducible refine gate_callee (f := 22) rfl ?_); refine goesL_ (some 70) rfl rfl Try.func22 (by kernel_rfl) rfl #[.slice (some ad154) l0.length c0, .int .i64 (wrap64 (1 + (wrap64 (Int.tmod a1 9)))), .int .i64 x10_2] rfl (by (try simp only [List.map_toArray, List.map_cons, List.map_nil]); first | done | rfl | (simp only [List.length_drop, List.length_take]; rfl)) ?_; (with_reducible refine (gate_May.calls k2 _ _ l0 (wrap64 (1 + (wrap64 (Int.tmod a1 9)))) x10_2 t155 _ ?side1 ?side2 A15.out).mono ?_); (case side1 => repeat (first | exact (Kd.C_below HR0.out HB.out) | (with_reducible refine Kd.C_alloc ?_ _) | (with_reducible refine Kd.C_drewN ?_ _) | (with_reducible refine Kd.C_drew ?_))); (case side2 => exact HC0.out); rintro e w23 ⟨rfl, hb⟩; refine ⟨_, rfl, ?_⟩; have n0_ := Aside0.mk (below_step (by repeat (first | (with_reducible first | exact HB.out | apply below_alloc | apply pw_below_drewN | apply below_drew1) | exact HB.out)) hb); clear HB; have HB := n0_; clear n0_; (try clear hb); (try clear hb2); (try clear hk); (try clear hi)))
                          go_roundg k2
                          case measure => have := HK1.out; have := HK2.out; omega
                          case rel => exact ⟨(wrap64 (x10_2 + 1)), (by first | rfl | (simp; done) | (simp [*]; done)), H', ⟨by have := HK1.out; have := HK2.out; omega⟩, ⟨by repeat (first | (with_reducible first | exact HB.out | apply below_alloc | apply pw_below_drewN | apply below_drew1) | exact HB.out)⟩⟩
                    · rw [if_neg c16] at H
                      have c16b0 : decide (t152 < 0) = false := decide_eq_false c16
                      clear c16
                      by_cases c24 : t152 ≥ 0
                      · rw [if_pos c24] at H
                        have c24b0 : decide (0 ≤ t152) = true := decide_eq_true c24
                        clear c24
                        by_cases c25 : x10_2 = t152
                        · rw [if_pos c25] at H
                          have c25b0 : (x10_2 == t152) = true := beq_iff_eq.mpr c25
                          have c25b1 : (x10_2 != t152) = false := bne_eq_false_iff_eq.mpr c25
                          clear c25
                          by_cases c26 : (t155 != false) = true
                          · rw [if_pos c26] at H
                            have c26b0 : (t155 != false) = true := c26
                            (try (have c26b1 : decide (t155 = false) = false := by simpa using c26))
                            (try (have c26b2 : (t155 == false) = false := by simpa using c26))
                            (try (have c26b3 : ¬ (t155 = false) := by simpa using c26))
                            clear c26
                            obtain rfl := Option.some.inj H
                            have p154 : 0 ≤ (x10_2 : Int) := of_decide_eq_true (by first | (with_reducible assumption) | assumption)
                            have q154 : x10_2 < (l0.length : Int) := of_decide_eq_true (by first | (with_reducible assumption) | assumption)
                            obtain ⟨ad154, e154, hx154_0, hx154_1, hx154_2, hx154_3⟩ := at_T29 HR0.out x10_2 p154 q154
                            cases e154
                            replace hx154_0 := (HB.out.cell (World.block_lt_of_cell? w _ hx154_0)).trans hx154_0
                            replace hx154_1 := (HB.out.cell (World.block_lt_of_cell? w _ hx154_1)).trans hx154_1
                            replace hx154_2 := (HB.out.cell (World.block_lt_of_cell? w _ hx154_2)).trans hx154_2
                            replace hx154_3 := (HB.out.cell (World.block_lt_of_cell? w _ hx154_3)).trans hx154_3
                            replace p154 := eq_true p154
                            replace q154 := eq_true q154
                            go_wp2_with (first | ((with_reducible refine gate_callee (f := 22) rfl ?_); refine goesL_ (some 70) rfl rfl Try.func22 (by kernel_rfl) rfl #[.slice (some ad154) l0.length c0, .int .i64 (wrap64 (1 + (wrap64 (Int.tmod a1 9)))), .int .i64 x10_2] rfl (by (try simp only [List.map_toArray, List.map_cons, List.map_nil]); first | done | rfl | (simp only [List.length_drop, List.length_take]; rfl)) ?_; (with_reducible refine (gate_May.calls k2 _ _ l0 (wrap64 (1 + (wrap64 (Int.tmod a1 9)))) x10_2 t155 _ ?side1 ?side2 A15.out).mono ?_); (case side1 => repeat (first | exact (Kd.C_below HR0.out HB.out) | (with_reducible refine Kd.C_alloc ?_ _) | (with_reducible refine Kd.C_drewN ?_ _) | (with_reducible refine Kd.C_drew ?_))); (case side2 => exact HC0.out); rintro e w27 ⟨rfl, hb⟩; refine ⟨_, rfl, ?_⟩; have n0_ := Aside0.mk (below_step (by repeat (first | (with_reducible first | exact HB.out | apply below_alloc | apply pw_below_drewN | apply below_drew1) | exact HB.out)) hb); clear HB; have HB := n0_; clear n0_; (try clear hb); (try clear hb2); (try clear hk); (try clear hi)))
                            go_ret
                            exact ⟨by first | rfl | (simp [errW_none, errW_some] <;> rfl) | (simp [*, errW_none, errW_some] <;> rfl), by repeat (first | (with_reducible first | exact HB.out | apply below_alloc | apply pw_below_drewN | apply below_drew1) | exact HB.out)⟩
                          · rw [if_neg c26] at H
                            have c26b0 : (t155 != false) = false := by simpa using c26
                            (try (have c26b1 : decide (t155 = false) = true := by simpa using c26))
                            (try (have c26b2 : (t155 == false) = true := by simpa using c26))
                            clear c26
                            have H' := Aside0.mk H
                            clear H
                            have p154 : 0 ≤ (x10_2 : Int) := of_decide_eq_true (by first | (with_reducible assumption) | assumption)
                            have q154 : x10_2 < (l0.length : Int) := of_decide_eq_true (by first | (with_reducible assumption) | assumption)
                            obtain ⟨ad154, e154, hx154_0, hx154_1, hx154_2, hx154_3⟩ := at_T29 HR0.out x10_2 p154 q154
                            cases e154
                            replace hx154_0 := (HB.out.cell (World.block_lt_of_cell? w _ hx154_0)).trans hx154_0
                            replace hx154_1 := (HB.out.cell (World.block_lt_of_cell? w _ hx154_1)).trans hx154_1
                            replace hx154_2 := (HB.out.cell (World.block_lt_of_cell? w _ hx154_2)).trans hx154_2
                            replace hx154_3 := (HB.out.cell (World.block_lt_of_cell? w _ hx154_3)).trans hx154_3
                            replace p154 := eq_true p154
                            replace q154 := eq_true q154
                            go_wp2_with (first | ((with_reducible refine gate_callee (f := 22) rfl ?_); refine goesL_ (some 70) rfl rfl Try.func22 (by kernel_rfl) rfl #[.slice (some ad154) l0.length c0, .int .i64 (wrap64 (1 + (wrap64 (Int.tmod a1 9)))), .int .i64 x10_2] rfl (by (try simp only [List.map_toArray, List.map_cons, List.map_nil]); first | done | rfl | (simp only [List.length_drop, List.length_take]; rfl)) ?_; (with_reducible refine (gate_May.calls k2 _ _ l0 (wrap64 (1 + (wrap64 (Int.tmod a1 9)))) x10_2 t155 _ ?side1 ?side2 A15.out).mono ?_); (case side1 => repeat (first | exact (Kd.C_below HR0.out HB.out) | (with_reducible refine Kd.C_alloc ?_ _) | (with_reducible refine Kd.C_drewN ?_ _) | (with_reducible refine Kd.C_drew ?_))); (case side2 => exact HC0.out); rintro e w28 ⟨rfl, hb⟩; refine ⟨_, rfl, ?_⟩; have n0_ := Aside0.mk (below_step (by repeat (first | (with_reducible first | exact HB.out | apply below_alloc | apply pw_below_drewN | apply below_drew1) | exact HB.out)) hb); clear HB; have HB := n0_; clear n0_; (try clear hb); (try clear hb2); (try clear hk); (try clear hi)))
                            go_roundg k2
                            case measure => have := HK1.out; have := HK2.out; omega
                            case rel => exact ⟨(wrap64 (x10_2 + 1)), (by first | rfl | (simp; done) | (simp [*]; done)), H', ⟨by have := HK1.out; have := HK2.out; omega⟩, ⟨by repeat (first | (with_reducible first | exact HB.out | apply below_alloc | apply pw_below_drewN | apply below_drew1) | exact HB.out)⟩⟩
                        · rw [if_neg c25] at H
                          have c25b0 : (x10_2 == t152) = false := beq_eq_false_iff_ne.mpr c25
                          have c25b1 : (x10_2 != t152) = true := bne_iff_ne.mpr c25
                          by_cases c29 : (t155 != false) = true
                          · rw [if_pos c29] at H
                            have c29b0 : (t155 != false) = true := c29
                            (try (have c29b1 : decide (t155 = false) = false := by simpa using c29))
                            (try (have c29b2 : (t155 == false) = false := by simpa using c29))
                            (try (have c29b3 : ¬ (t155 = false) := by simpa using c29))
                            clear c29
                            obtain rfl := Option.some.inj H
                            have p154 : 0 ≤ (x10_2 : Int) := of_decide_eq_true (by first | (with_reducible assumption) | assumption)
                            have q154 : x10_2 < (l0.length : Int) := of_decide_eq_true (by first | (with_reducible assumption) | assumption)
                            obtain ⟨ad154, e154, hx154_0, hx154_1, hx154_2, hx154_3⟩ := at_T29 HR0.out x10_2 p154 q154
                            cases e154
                            replace hx154_0 := (HB.out.cell (World.block_lt_of_cell? w _ hx154_0)).trans hx154_0
                            replace hx154_1 := (HB.out.cell (World.block_lt_of_cell? w _ hx154_1)).trans hx154_1
                            replace hx154_2 := (HB.out.cell (World.block_lt_of_cell? w _ hx154_2)).trans hx154_2
                            replace hx154_3 := (HB.out.cell (World.block_lt_of_cell? w _ hx154_3)).trans hx154_3
                            replace p154 := eq_true p154
                            replace q154 := eq_true q154
                            go_wp2_with (first | ((with_reducible refine gate_callee (f := 22) rfl ?_); refine goesL_ (some 70) rfl rfl Try.func22 (by kernel_rfl) rfl #[.slice (some ad154) l0.length c0, .int .i64 (wrap64 (1 + (wrap64 (Int.tmod a1 9)))), .int .i64 x10_2] rfl (by (try simp only [List.map_toArray, List.map_cons, List.map_nil]); first | done | rfl | (simp only [List.length_drop, List.length_take]; rfl)) ?_; (with_reducible refine (gate_May.calls k2 _ _ l0 (wrap64 (1 + (wrap64 (Int.tmod a1 9)))) x10_2 t155 _ ?side1 ?side2 A15.out).mono ?_); (case side1 => repeat (first | exact (Kd.C_below HR0.out HB.out) | (with_reducible refine Kd.C_alloc ?_ _) | (with_reducible refine Kd.C_drewN ?_ _) | (with_reducible refine Kd.C_drew ?_))); (case side2 => exact HC0.out); rintro e w30 ⟨rfl, hb⟩; refine ⟨_, rfl, ?_⟩; have n0_ := Aside0.mk (below_step (by repeat (first | (with_reducible first | exact HB.out | apply below_alloc | apply pw_below_drewN | apply below_drew1) | exact HB.out)) hb); clear HB; have HB := n0_; clear n0_; (try clear hb); (try clear hb2); (try clear hk); (try clear hi)))
                            go_ret
                            exact ⟨by first | rfl | (simp [errW_none, errW_some] <;> rfl) | (simp [*, errW_none, errW_some] <;> rfl), by repeat (first | (with_reducible first | exact HB.out | apply below_alloc | apply pw_below_drewN | apply below_drew1) | exact HB.out)⟩
                          · rw [if_neg c29] at H
                            have c29b0 : (t155 != false) = false := by simpa using c29
                            (try (have c29b1 : decide (t155 = false) = true := by simpa using c29))
                            (try (have c29b2 : (t155 == false) = true := by simpa using c29))
                            clear c29
                            have H' := Aside0.mk H
                            clear H
                            have p154 : 0 ≤ (x10_2 : Int) := of_decide_eq_true (by first | (with_reducible assumption) | assumption)
                            have q154 : x10_2 < (l0.length : Int) := of_decide_eq_true (by first | (with_reducible assumption) | assumption)
                            obtain ⟨ad154, e154, hx154_0, hx154_1, hx154_2, hx154_3⟩ := at_T29 HR0.out x10_2 p154 q154
                            cases e154
                            replace hx154_0 := (HB.out.cell (World.block_lt_of_cell? w _ hx154_0)).trans hx154_0
                            replace hx154_1 := (HB.out.cell (World.block_lt_of_cell? w _ hx154_1)).trans hx154_1
                            replace hx154_2 := (HB.out.cell (World.block_lt_of_cell? w _ hx154_2)).trans hx154_2
                            replace hx154_3 := (HB.out.cell (World.block_lt_of_cell? w _ hx154_3)).trans hx154_3
                            replace p154 := eq_true p154
                            replace q154 := eq_true q154
                            go_wp2_with (first | ((with_reducible refine gate_callee (f := 22) rfl ?_); refine goesL_ (some 70) rfl rfl Try.func22 (by kernel_rfl) rfl #[.slice (some ad154) l0.length c0, .int .i64 (wrap64 (1 + (wrap64 (Int.tmod a1 9)))), .int .i64 x10_2] rfl (by (try simp only [List.map_toArray, List.map_cons, List.map_nil]); first | done | rfl | (simp only [List.length_drop, List.length_take]; rfl)) ?_; (with_reducible refine (gate_May.calls k2 _ _ l0 (wrap64 (1 + (wrap64 (Int.tmod a1 9)))) x10_2 t155 _ ?side1 ?side2 A15.out).mono ?_); (case side1 => repeat (first | exact (Kd.C_below HR0.out HB.out) | (with_reducible refine Kd.C_alloc ?_ _) | (with_reducible refine Kd.C_drewN ?_ _) | (with_reducible refine Kd.C_drew ?_))); (case side2 => exact HC0.out); rintro e w31 ⟨rfl, hb⟩; refine ⟨_, rfl, ?_⟩; have n0_ := Aside0.mk (below_step (by repeat (first | (with_reducible first | exact HB.out | apply below_alloc | apply pw_below_drewN | apply below_drew1) | exact HB.out)) hb); clear HB; have HB := n0_; clear n0_; (try clear hb); (try clear hb2); (try clear hk); (try clear hi)))
                            go_roundg k2
                            case measure => have := HK1.out; have := HK2.out; omega
                            case rel => exact ⟨(wrap64 (x10_2 + 1)), (by first | rfl | (simp; done) | (simp [*]; done)), H', ⟨by have := HK1.out; have := HK2.out; omega⟩, ⟨by repeat (first | (with_reducible first | exact HB.out | apply below_alloc | apply pw_below_drewN | apply below_drew1) | exact HB.out)⟩⟩
                      · rw [if_neg c24] at H
                        have c24b0 : decide (0 ≤ t152) = false := decide_eq_false c24
                        clear c24
                        have H' := Aside0.mk H
                        clear H
                        have p154 : 0 ≤ (x10_2 : Int) := of_decide_eq_true (by first | (with_reducible assumption) | assumption)
                        have q154 : x10_2 < (l0.length : Int) := of_decide_eq_true (by first | (with_reducible assumption) | assumption)
                        obtain ⟨ad154, e154, hx154_0, hx154_1, hx154_2, hx154_3⟩ := at_T29 HR0.out x10_2 p154 q154
                        cases e154
                        replace hx154_0 := (HB.out.cell (World.block_lt_of_cell? w _ hx154_0)).trans hx154_0
                        replace hx154_1 := (HB.out.cell (World.block_lt_of_cell? w _ hx154_1)).trans hx154_1
                        replace hx154_2 := (HB.out.cell (World.block_lt_of_cell? w _ hx154_2)).trans hx154_2
                        replace hx154_3 := (HB.out.cell (World.block_lt_of_cell? w _ hx154_3)).trans hx154_3
                        replace p154 := eq_true p154
                        replace q154 := eq_true q154
                        go_wp2_with (first | ((with_reducible refine gate_callee (f := 22) rfl ?_); refine goesL_ (some 70) rfl rfl Try.func22 (by kernel_rfl) rfl #[.slice (some ad154) l0.length c0, .int .i64 (wrap64 (1 + (wrap64 (Int.tmod a1 9)))), .int .i64 x10_2] rfl (by (try simp only [List.map_toArray, List.map_cons, List.map_nil]); first | done | rfl | (simp only [List.length_drop, List.length_take]; rfl)) ?_; (with_reducible refine (gate_May.calls k2 _ _ l0 (wrap64 (1 + (wrap64 (Int.tmod a1 9)))) x10_2 t155 _ ?side1 ?side2 A15.out).mono ?_); (case side1 => repeat (first | exact (Kd.C_below HR0.out HB.out) | (with_reducible refine Kd.C_alloc ?_ _) | (with_reducible refine Kd.C_drewN ?_ _) | (with_reducible refine Kd.C_drew ?_))); (case side2 => exact HC0.out); rintro e w32 ⟨rfl, hb⟩; refine ⟨_, rfl, ?_⟩; have n0_ := Aside0.mk (below_step (by repeat (first | (with_reducible first | exact HB.out | apply below_alloc | apply pw_below_drewN | apply below_drew1) | exact HB.out)) hb); clear HB; have HB := n0_; clear n0_; (try clear hb); (try clear hb2); (try clear hk); (try clear hi)))
                        go_roundg k2
                        case measure => have := HK1.out; have := HK2.out; omega
                        case rel => exact ⟨(wrap64 (x10_2 + 1)), (by first | rfl | (simp; done) | (simp [*]; done)), H', ⟨by have := HK1.out; have := HK2.out; omega⟩, ⟨by repeat (first | (with_reducible first | exact HB.out | apply below_alloc | apply pw_below_drewN | apply below_drew1) | exact HB.out)⟩⟩
                  · rw [if_neg c14] at H
                    have c14b0 : (((rd_T29 l0 x10_2).f0) == 0) = false := beq_eq_false_iff_ne.mpr c14
                    have c14b1 : (((rd_T29 l0 x10_2).f0) != 0) = true := bne_iff_ne.mpr c14
                    obtain ⟨bq33, hbq33⟩ : ∃ b_ : Bool, b_ = ((rd_T29 l0 x10_2).f3) := ⟨_, rfl⟩
                    replace H : (if (bq33 = true) then ((gate_May.f k2 l0 (wrap64 (1 + (wrap64 (Int.tmod a1 9)))) x10_2).bind fun t157 => (if t152 < 0 then (if (t157 != false) = true then (some false) else (if t152 ≥ 0 then (if x10_2 = t152 then (ogivelaw18_GateAlone.l1 k2 l0 t151 (wrap64 (1 + (wrap64 (Int.tmod a1 9)))) t152 x8_1 (wrap64 (x10_2 + 1))) else (ogivelaw18_GateAlone.l1 k2 l0 t151 (wrap64 (1 + (wrap64 (Int.tmod a1 9)))) t152 x8_1 (wrap64 (x10_2 + 1)))) else (ogivelaw18_GateAlone.l1 k2 l0 t151 (wrap64 (1 + (wrap64 (Int.tmod a1 9)))) t152 x8_1 (wrap64 (x10_2 + 1))))) else (if t152 ≥ 0 then (if x10_2 = t152 then (if (t157 != false) = true then (some false) else (ogivelaw18_GateAlone.l1 k2 l0 t151 (wrap64 (1 + (wrap64 (Int.tmod a1 9)))) t152 x8_1 (wrap64 (x10_2 + 1)))) else (if (t157 != false) = true then (some false) else (ogivelaw18_GateAlone.l1 k2 l0 t151 (wrap64 (1 + (wrap64 (Int.tmod a1 9)))) t152 x8_1 (wrap64 (x10_2 + 1))))) else (ogivelaw18_GateAlone.l1 k2 l0 t151 (wrap64 (1 + (wrap64 (Int.tmod a1 9)))) t152 x8_1 (wrap64 (x10_2 + 1)))))) else ((gate_May.f k2 l0 (wrap64 (1 + (wrap64 (Int.tmod a1 9)))) x10_2).bind fun t159 => (if t152 < 0 then (if (t159 != (decide (((rd_T29 l0 x10_2).f2) ≤ 0))) = true then (some false) else (if t152 ≥ 0 then (if x10_2 = t152 then (if ((rd_T29 l0 x10_2).f2) ≤ 0 then (if (t159 != (!x8_1)) = true then (some false) else (ogivelaw18_GateAlone.l1 k2 l0 t151 (wrap64 (1 + (wrap64 (Int.tmod a1 9)))) t152 x8_1 (wrap64 (x10_2 + 1)))) else (if (t159 != false) = true then (some false) else (ogivelaw18_GateAlone.l1 k2 l0 t151 (wrap64 (1 + (wrap64 (Int.tmod a1 9)))) t152 x8_1 (wrap64 (x10_2 + 1))))) else (if (t159 != false) = true then (some false) else (ogivelaw18_GateAlone.l1 k2 l0 t151 (wrap64 (1 + (wrap64 (Int.tmod a1 9)))) t152 x8_1 (wrap64 (x10_2 + 1))))) else (ogivelaw18_GateAlone.l1 k2 l0 t151 (wrap64 (1 + (wrap64 (Int.tmod a1 9)))) t152 x8_1 (wrap64 (x10_2 + 1))))) else (if t152 ≥ 0 then (if x10_2 = t152 then (if ((rd_T29 l0 x10_2).f2) ≤ 0 then (if (t159 != (!x8_1)) = true then (some false) else (ogivelaw18_GateAlone.l1 k2 l0 t151 (wrap64 (1 + (wrap64 (Int.tmod a1 9)))) t152 x8_1 (wrap64 (x10_2 + 1)))) else (if (t159 != false) = true then (some false) else (ogivelaw18_GateAlone.l1 k2 l0 t151 (wrap64 (1 + (wrap64 (Int.tmod a1 9)))) t152 x8_1 (wrap64 (x10_2 + 1))))) else (if (t159 != false) = true then (some false) else (ogivelaw18_GateAlone.l1 k2 l0 t151 (wrap64 (1 + (wrap64 (Int.tmod a1 9)))) t152 x8_1 (wrap64 (x10_2 + 1))))) else (ogivelaw18_GateAlone.l1 k2 l0 t151 (wrap64 (1 + (wrap64 (Int.tmod a1 9)))) t152 x8_1 (wrap64 (x10_2 + 1))))))) = some r := by rw [← hbq33] at H; exact H
                    have Nbq33 := Aside0.mk hbq33
                    clear hbq33
                    by_cases c34 : (bq33 = true)
                    · subst c34
                      have H1 : ((gate_May.f k2 l0 (wrap64 (1 + (wrap64 (Int.tmod a1 9)))) x10_2).bind fun t157 => (if t152 < 0 then (if (t157 != false) = true then (some false) else (if t152 ≥ 0 then (if x10_2 = t152 then (ogivelaw18_GateAlone.l1 k2 l0 t151 (wrap64 (1 + (wrap64 (Int.tmod a1 9)))) t152 x8_1 (wrap64 (x10_2 + 1))) else (ogivelaw18_GateAlone.l1 k2 l0 t151 (wrap64 (1 + (wrap64 (Int.tmod a1 9)))) t152 x8_1 (wrap64 (x10_2 + 1)))) else (ogivelaw18_GateAlone.l1 k2 l0 t151 (wrap64 (1 + (wrap64 (Int.tmod a1 9)))) t152 x8_1 (wrap64 (x10_2 + 1))))) else (if t152 ≥ 0 then (if x10_2 = t152 then (if (t157 != false) = true then (some false) else (ogivelaw18_GateAlone.l1 k2 l0 t151 (wrap64 (1 + (wrap64 (Int.tmod a1 9)))) t152 x8_1 (wrap64 (x10_2 + 1)))) else (if (t157 != false) = true then (some false) else (ogivelaw18_GateAlone.l1 k2 l0 t151 (wrap64 (1 + (wrap64 (Int.tmod a1 9)))) t152 x8_1 (wrap64 (x10_2 + 1))))) else (ogivelaw18_GateAlone.l1 k2 l0 t151 (wrap64 (1 + (wrap64 (Int.tmod a1 9)))) t152 x8_1 (wrap64 (x10_2 + 1)))))) = some r := by rw [if_pos rfl] at H; exact H
                      clear H
                      have H := H1
                      clear H1
                      replace H := Option.bind_eq_some_iff.mp H
                      obtain ⟨t157, A350, H⟩ := H
                      replace H : (if t152 < 0 then (if (t157 != false) = true then (some false) else (if t152 ≥ 0 then (if x10_2 = t152 then (ogivelaw18_GateAlone.l1 k2 l0 t151 (wrap64 (1 + (wrap64 (Int.tmod a1 9)))) t152 x8_1 (wrap64 (x10_2 + 1))) else (ogivelaw18_GateAlone.l1 k2 l0 t151 (wrap64 (1 + (wrap64 (Int.tmod a1 9)))) t152 x8_1 (wrap64 (x10_2 + 1)))) else (ogivelaw18_GateAlone.l1 k2 l0 t151 (wrap64 (1 + (wrap64 (Int.tmod a1 9)))) t152 x8_1 (wrap64 (x10_2 + 1))))) else (if t152 ≥ 0 then (if x10_2 = t152 then (if (t157 != false) = true then (some false) else (ogivelaw18_GateAlone.l1 k2 l0 t151 (wrap64 (1 + (wrap64 (Int.tmod a1 9)))) t152 x8_1 (wrap64 (x10_2 + 1)))) else (if (t157 != false) = true then (some false) else (ogivelaw18_GateAlone.l1 k2 l0 t151 (wrap64 (1 + (wrap64 (Int.tmod a1 9)))) t152 x8_1 (wrap64 (x10_2 + 1))))) else (ogivelaw18_GateAlone.l1 k2 l0 t151 (wrap64 (1 + (wrap64 (Int.tmod a1 9)))) t152 x8_1 (wrap64 (x10_2 + 1))))) = some r := H
                      have A35 := Aside0.mk A350
                      clear A350
                      by_cases c36 : t152 < 0
                      · rw [if_pos c36] at H
                        have c36b0 : decide (t152 < 0) = true := decide_eq_true c36
                        clear c36
                        by_cases c37 : (t157 != false) = true
                        · rw [if_pos c37] at H
                          have c37b0 : (t157 != false) = true := c37
                          (try (have c37b1 : decide (t157 = false) = false := by simpa using c37))
                          (try (have c37b2 : (t157 == false) = false := by simpa using c37))
                          (try (have c37b3 : ¬ (t157 = false) := by simpa using c37))
                          clear c37
                          obtain rfl := Option.some.inj H
                          have p154 : 0 ≤ (x10_2 : Int) := of_decide_eq_true (by first | (with_reducible assumption) | assumption)
                          have q154 : x10_2 < (l0.length : Int) := of_decide_eq_true (by first | (with_reducible assumption) | assumption)
                          obtain ⟨ad154, e154, hx154_0, hx154_1, hx154_2, hx154_3⟩ := at_T29 HR0.out x10_2 p154 q154
                          (try rw [← Nbq33.out] at hx154_3)
                          cases e154
                          replace hx154_0 := (HB.out.cell (World.block_lt_of_cell? w _ hx154_0)).trans hx154_0
                          replace hx154_1 := (HB.out.cell (World.block_lt_of_cell? w _ hx154_1)).trans hx154_1
                          replace hx154_2 := (HB.out.cell (World.block_lt_of_cell? w _ hx154_2)).trans hx154_2
                          replace hx154_3 := (HB.out.cell (World.block_lt_of_cell? w _ hx154_3)).trans hx154_3
                          replace p154 := eq_true p154
                          replace q154 := eq_true q154
                          have p156 : 0 ≤ (x10_2 : Int) := of_decide_eq_true (by first | (with_reducible assumption) | assumption)
                          have q156 : x10_2 < (l0.length : Int) := of_decide_eq_true (by first | (with_reducible assumption) | assumption)
                          obtain ⟨ad156, e156, hx156_0, hx156_1, hx156_2, hx156_3⟩ := at_T29 HR0.out x10_2 p156 q156
                          (try rw [← Nbq33.out] at hx156_3)
                          obtain rfl : ad154 = ad156 := (by injection e156)
                          replace hx156_0 := (HB.out.cell (World.block_lt_of_cell? w _ hx156_0)).trans hx156_0
                          replace hx156_1 := (HB.out.cell (World.block_lt_of_cell? w _ hx156_1)).trans hx156_1
                          replace hx156_2 := (HB.out.cell (World.block_lt_of_cell? w _ hx156_2)).trans hx156_2
                          replace hx156_3 := (HB.out.cell (World.block_lt_of_cell? w _ hx156_3)).trans hx156_3
                          replace p156 := eq_true p156
                          replace q156 := eq_true q156
                          go_wp2_with (first | ((with_reducible refine gate_callee (f := 22) rfl ?_); refine goesL_ (some 70) rfl rfl Try.func22 (by kernel_rfl) rfl #[.slice (some ad154) l0.length c0, .int .i64 (wrap64 (1 + (wrap64 (Int.tmod a1 9)))), .int .i64 x10_2] rfl (by (try simp only [List.map_toArray, List.map_cons, List.map_nil]); first | done | rfl | (simp only [List.length_drop, List.length_take]; rfl)) ?_; (with_reducible refine (gate_May.calls k2 _ _ l0 (wrap64 (1 + (wrap64 (Int.tmod a1 9)))) x10_2 t157 _ ?side1 ?side2 A35.out).mono ?_); (case side1 => repeat (first | exact (Kd.C_below HR0.out HB.out) | (with_reducible refine Kd.C_alloc ?_ _) | (with_reducible refine Kd.C_drewN ?_ _) | (with_reducible refine Kd.C_drew ?_))); (case side2 => exact HC0.out); rintro e w38 ⟨rfl, hb⟩; refine ⟨_, rfl, ?_⟩; have n0_ := Aside0.mk (below_step (by repeat (first | (with_reducible first | exact HB.out | apply below_alloc | apply pw_below_drewN | apply below_drew1) | exact HB.out)) hb); clear HB; have HB := n0_; clear n0_; (try clear hb); (try clear hb2); (try clear hk); (try clear hi)))
                          go_ret
                          exact ⟨by first | rfl | (simp [errW_none, errW_some] <;> rfl) | (simp [*, errW_none, errW_some] <;> rfl), by repeat (first | (with_reducible first | exact HB.out | apply below_alloc | apply pw_below_drewN | apply below_drew1) | exact HB.out)⟩
                        · rw [if_neg c37] at H
                          have c37b0 : (t157 != false) = false := by simpa using c37
                          (try (have c37b1 : decide (t157 = false) = true := by simpa using c37))
                          (try (have c37b2 : (t157 == false) = true := by simpa using c37))
                          clear c37
                          by_cases c39 : t152 ≥ 0
                          · exact absurd (of_decide_eq_true c36b0) (by omega)
                          · rw [if_neg c39] at H
                            have c39b0 : decide (0 ≤ t152) = false := decide_eq_false c39
                            clear c39
                            have H' := Aside0.mk H
                            clear H
                            have p154 : 0 ≤ (x10_2 : Int) := of_decide_eq_true (by first | (with_reducible assumption) | assumption)
                            have q154 : x10_2 < (l0.length : Int) := of_decide_eq_true (by first | (with_reducible assumption) | assumption)
                            obtain ⟨ad154, e154, hx154_0, hx154_1, hx154_2, hx154_3⟩ := at_T29 HR0.out x10_2 p154 q154
                            (try rw [← Nbq33.out] at hx154_3)
                            cases e154
                            replace hx154_0 := (HB.out.cell (World.block_lt_of_cell? w _ hx154_0)).trans hx154_0
                            replace hx154_1 := (HB.out.cell (World.block_lt_of_cell? w _ hx154_1)).trans hx154_1
                            replace hx154_2 := (HB.out.cell (World.block_lt_of_cell? w _ hx154_2)).trans hx154_2
                            replace hx154_3 := (HB.out.cell (World.block_lt_of_cell? w _ hx154_3)).trans hx154_3
                            replace p154 := eq_true p154
                            replace q154 := eq_true q154
                            have p156 : 0 ≤ (x10_2 : Int) := of_decide_eq_true (by first | (with_reducible assumption) | assumption)
                            have q156 : x10_2 < (l0.length : Int) := of_decide_eq_true (by first | (with_reducible assumption) | assumption)
                            obtain ⟨ad156, e156, hx156_0, hx156_1, hx156_2, hx156_3⟩ := at_T29 HR0.out x10_2 p156 q156
                            (try rw [← Nbq33.out] at hx156_3)
                            obtain rfl : ad154 = ad156 := (by injection e156)
                            replace hx156_0 := (HB.out.cell (World.block_lt_of_cell? w _ hx156_0)).trans hx156_0
                            replace hx156_1 := (HB.out.cell (World.block_lt_of_cell? w _ hx156_1)).trans hx156_1
                            replace hx156_2 := (HB.out.cell (World.block_lt_of_cell? w _ hx156_2)).trans hx156_2
                            replace hx156_3 := (HB.out.cell (World.block_lt_of_cell? w _ hx156_3)).trans hx156_3
                            replace p156 := eq_true p156
                            replace q156 := eq_true q156
                            go_wp2_with (first | ((with_reducible refine gate_callee (f := 22) rfl ?_); refine goesL_ (some 70) rfl rfl Try.func22 (by kernel_rfl) rfl #[.slice (some ad154) l0.length c0, .int .i64 (wrap64 (1 + (wrap64 (Int.tmod a1 9)))), .int .i64 x10_2] rfl (by (try simp only [List.map_toArray, List.map_cons, List.map_nil]); first | done | rfl | (simp only [List.length_drop, List.length_take]; rfl)) ?_; (with_reducible refine (gate_May.calls k2 _ _ l0 (wrap64 (1 + (wrap64 (Int.tmod a1 9)))) x10_2 t157 _ ?side1 ?side2 A35.out).mono ?_); (case side1 => repeat (first | exact (Kd.C_below HR0.out HB.out) | (with_reducible refine Kd.C_alloc ?_ _) | (with_reducible refine Kd.C_drewN ?_ _) | (with_reducible refine Kd.C_drew ?_))); (case side2 => exact HC0.out); rintro e w43 ⟨rfl, hb⟩; refine ⟨_, rfl, ?_⟩; have n0_ := Aside0.mk (below_step (by repeat (first | (with_reducible first | exact HB.out | apply below_alloc | apply pw_below_drewN | apply below_drew1) | exact HB.out)) hb); clear HB; have HB := n0_; clear n0_; (try clear hb); (try clear hb2); (try clear hk); (try clear hi)))
                            go_roundg k2
                            case measure => have := HK1.out; have := HK2.out; omega
                            case rel => exact ⟨(wrap64 (x10_2 + 1)), (by first | rfl | (simp; done) | (simp [*]; done)), H', ⟨by have := HK1.out; have := HK2.out; omega⟩, ⟨by repeat (first | (with_reducible first | exact HB.out | apply below_alloc | apply pw_below_drewN | apply below_drew1) | exact HB.out)⟩⟩
                      · rw [if_neg c36] at H
                        have c36b0 : decide (t152 < 0) = false := decide_eq_false c36
                        clear c36
                        by_cases c44 : t152 ≥ 0
                        · rw [if_pos c44] at H
                          have c44b0 : decide (0 ≤ t152) = true := decide_eq_true c44
                          clear c44
                          by_cases c45 : x10_2 = t152
                          · rw [if_pos c45] at H
                            have c45b0 : (x10_2 == t152) = true := beq_iff_eq.mpr c45
                            have c45b1 : (x10_2 != t152) = false := bne_eq_false_iff_eq.mpr c45
                            clear c45
                            by_cases c46 : (t157 != false) = true
                            · rw [if_pos c46] at H
                              have c46b0 : (t157 != false) = true := c46
                              (try (have c46b1 : decide (t157 = false) = false := by simpa using c46))
                              (try (have c46b2 : (t157 == false) = false := by simpa using c46))
                              (try (have c46b3 : ¬ (t157 = false) := by simpa using c46))
                              clear c46
                              obtain rfl := Option.some.inj H
                              have p154 : 0 ≤ (x10_2 : Int) := of_decide_eq_true (by first | (with_reducible assumption) | assumption)
                              have q154 : x10_2 < (l0.length : Int) := of_decide_eq_true (by first | (with_reducible assumption) | assumption)
                              obtain ⟨ad154, e154, hx154_0, hx154_1, hx154_2, hx154_3⟩ := at_T29 HR0.out x10_2 p154 q154
                              (try rw [← Nbq33.out] at hx154_3)
                              cases e154
                              replace hx154_0 := (HB.out.cell (World.block_lt_of_cell? w _ hx154_0)).trans hx154_0
                              replace hx154_1 := (HB.out.cell (World.block_lt_of_cell? w _ hx154_1)).trans hx154_1
                              replace hx154_2 := (HB.out.cell (World.block_lt_of_cell? w _ hx154_2)).trans hx154_2
                              replace hx154_3 := (HB.out.cell (World.block_lt_of_cell? w _ hx154_3)).trans hx154_3
                              replace p154 := eq_true p154
                              replace q154 := eq_true q154
                              have p156 : 0 ≤ (x10_2 : Int) := of_decide_eq_true (by first | (with_reducible assumption) | assumption)
                              have q156 : x10_2 < (l0.length : Int) := of_decide_eq_true (by first | (with_reducible assumption) | assumption)
                              obtain ⟨ad156, e156, hx156_0, hx156_1, hx156_2, hx156_3⟩ := at_T29 HR0.out x10_2 p156 q156
                              (try rw [← Nbq33.out] at hx156_3)
                              obtain rfl : ad154 = ad156 := (by injection e156)
                              replace hx156_0 := (HB.out.cell (World.block_lt_of_cell? w _ hx156_0)).trans hx156_0
                              replace hx156_1 := (HB.out.cell (World.block_lt_of_cell? w _ hx156_1)).trans hx156_1
                              replace hx156_2 := (HB.out.cell (World.block_lt_of_cell? w _ hx156_2)).trans hx156_2
                              replace hx156_3 := (HB.out.cell (World.block_lt_of_cell? w _ hx156_3)).trans hx156_3
                              replace p156 := eq_true p156
                              replace q156 := eq_true q156
                              go_wp2_with (first | ((with_reducible refine gate_callee (f := 22) rfl ?_); refine goesL_ (some 70) rfl rfl Try.func22 (by kernel_rfl) rfl #[.slice (some ad154) l0.length c0, .int .i64 (wrap64 (1 + (wrap64 (Int.tmod a1 9)))), .int .i64 x10_2] rfl (by (try simp only [List.map_toArray, List.map_cons, List.map_nil]); first | done | rfl | (simp only [List.length_drop, List.length_take]; rfl)) ?_; (with_reducible refine (gate_May.calls k2 _ _ l0 (wrap64 (1 + (wrap64 (Int.tmod a1 9)))) x10_2 t157 _ ?side1 ?side2 A35.out).mono ?_); (case side1 => repeat (first | exact (Kd.C_below HR0.out HB.out) | (with_reducible refine Kd.C_alloc ?_ _) | (with_reducible refine Kd.C_drewN ?_ _) | (with_reducible refine Kd.C_drew ?_))); (case side2 => exact HC0.out); rintro e w47 ⟨rfl, hb⟩; refine ⟨_, rfl, ?_⟩; have n0_ := Aside0.mk (below_step (by repeat (first | (with_reducible first | exact HB.out | apply below_alloc | apply pw_below_drewN | apply below_drew1) | exact HB.out)) hb); clear HB; have HB := n0_; clear n0_; (try clear hb); (try clear hb2); (try clear hk); (try clear hi)))
                              go_ret
                              exact ⟨by first | rfl | (simp [errW_none, errW_some] <;> rfl) | (simp [*, errW_none, errW_some] <;> rfl), by repeat (first | (with_reducible first | exact HB.out | apply below_alloc | apply pw_below_drewN | apply below_drew1) | exact HB.out)⟩
                            · rw [if_neg c46] at H
                              have c46b0 : (t157 != false) = false := by simpa using c46
                              (try (have c46b1 : decide (t157 = false) = true := by simpa using c46))
                              (try (have c46b2 : (t157 == false) = true := by simpa using c46))
                              clear c46
                              have H' := Aside0.mk H
                              clear H
                              have p154 : 0 ≤ (x10_2 : Int) := of_decide_eq_true (by first | (with_reducible assumption) | assumption)
                              have q154 : x10_2 < (l0.length : Int) := of_decide_eq_true (by first | (with_reducible assumption) | assumption)
                              obtain ⟨ad154, e154, hx154_0, hx154_1, hx154_2, hx154_3⟩ := at_T29 HR0.out x10_2 p154 q154
                              (try rw [← Nbq33.out] at hx154_3)
                              cases e154
                              replace hx154_0 := (HB.out.cell (World.block_lt_of_cell? w _ hx154_0)).trans hx154_0
                              replace hx154_1 := (HB.out.cell (World.block_lt_of_cell? w _ hx154_1)).trans hx154_1
                              replace hx154_2 := (HB.out.cell (World.block_lt_of_cell? w _ hx154_2)).trans hx154_2
                              replace hx154_3 := (HB.out.cell (World.block_lt_of_cell? w _ hx154_3)).trans hx154_3
                              replace p154 := eq_true p154
                              replace q154 := eq_true q154
                              have p156 : 0 ≤ (x10_2 : Int) := of_decide_eq_true (by first | (with_reducible assumption) | assumption)
                              have q156 : x10_2 < (l0.length : Int) := of_decide_eq_true (by first | (with_reducible assumption) | assumption)
                              obtain ⟨ad156, e156, hx156_0, hx156_1, hx156_2, hx156_3⟩ := at_T29 HR0.out x10_2 p156 q156
                              (try rw [← Nbq33.out] at hx156_3)
                              obtain rfl : ad154 = ad156 := (by injection e156)
                              replace hx156_0 := (HB.out.cell (World.block_lt_of_cell? w _ hx156_0)).trans hx156_0
                              replace hx156_1 := (HB.out.cell (World.block_lt_of_cell? w _ hx156_1)).trans hx156_1
                              replace hx156_2 := (HB.out.cell (World.block_lt_of_cell? w _ hx156_2)).trans hx156_2
                              replace hx156_3 := (HB.out.cell (World.block_lt_of_cell? w _ hx156_3)).trans hx156_3
                              replace p156 := eq_true p156
                              replace q156 := eq_true q156
                              go_wp2_with (first | ((with_reducible refine gate_callee (f := 22) rfl ?_); refine goesL_ (some 70) rfl rfl Try.func22 (by kernel_rfl) rfl #[.slice (some ad154) l0.length c0, .int .i64 (wrap64 (1 + (wrap64 (Int.tmod a1 9)))), .int .i64 x10_2] rfl (by (try simp only [List.map_toArray, List.map_cons, List.map_nil]); first | done | rfl | (simp only [List.length_drop, List.length_take]; rfl)) ?_; (with_reducible refine (gate_May.calls k2 _ _ l0 (wrap64 (1 + (wrap64 (Int.tmod a1 9)))) x10_2 t157 _ ?side1 ?side2 A35.out).mono ?_); (case side1 => repeat (first | exact (Kd.C_below HR0.out HB.out) | (with_reducible refine Kd.C_alloc ?_ _) | (with_reducible refine Kd.C_drewN ?_ _) | (with_reducible refine Kd.C_drew ?_))); (case side2 => exact HC0.out); rintro e w48 ⟨rfl, hb⟩; refine ⟨_, rfl, ?_⟩; have n0_ := Aside0.mk (below_step (by repeat (first | (with_reducible first | exact HB.out | apply below_alloc | apply pw_below_drewN | apply below_drew1) | exact HB.out)) hb); clear HB; have HB := n0_; clear n0_; (try clear hb); (try clear hb2); (try clear hk); (try clear hi)))
                              go_roundg k2
                              case measure => have := HK1.out; have := HK2.out; omega
                              case rel => exact ⟨(wrap64 (x10_2 + 1)), (by first | rfl | (simp; done) | (simp [*]; done)), H', ⟨by have := HK1.out; have := HK2.out; omega⟩, ⟨by repeat (first | (with_reducible first | exact HB.out | apply below_alloc | apply pw_below_drewN | apply below_drew1) | exact HB.out)⟩⟩
                          · rw [if_neg c45] at H
                            have c45b0 : (x10_2 == t152) = false := beq_eq_false_iff_ne.mpr c45
                            have c45b1 : (x10_2 != t152) = true := bne_iff_ne.mpr c45
                            by_cases c49 : (t157 != false) = true
                            · rw [if_pos c49] at H
                              have c49b0 : (t157 != false) = true := c49
                              (try (have c49b1 : decide (t157 = false) = false := by simpa using c49))
                              (try (have c49b2 : (t157 == false) = false := by simpa using c49))
                              (try (have c49b3 : ¬ (t157 = false) := by simpa using c49))
                              clear c49
                              obtain rfl := Option.some.inj H
                              have p154 : 0 ≤ (x10_2 : Int) := of_decide_eq_true (by first | (with_reducible assumption) | assumption)
                              have q154 : x10_2 < (l0.length : Int) := of_decide_eq_true (by first | (with_reducible assumption) | assumption)
                              obtain ⟨ad154, e154, hx154_0, hx154_1, hx154_2, hx154_3⟩ := at_T29 HR0.out x10_2 p154 q154
                              (try rw [← Nbq33.out] at hx154_3)
                              cases e154
                              replace hx154_0 := (HB.out.cell (World.block_lt_of_cell? w _ hx154_0)).trans hx154_0
                              replace hx154_1 := (HB.out.cell (World.block_lt_of_cell? w _ hx154_1)).trans hx154_1
                              replace hx154_2 := (HB.out.cell (World.block_lt_of_cell? w _ hx154_2)).trans hx154_2
                              replace hx154_3 := (HB.out.cell (World.block_lt_of_cell? w _ hx154_3)).trans hx154_3
                              replace p154 := eq_true p154
                              replace q154 := eq_true q154
                              have p156 : 0 ≤ (x10_2 : Int) := of_decide_eq_true (by first | (with_reducible assumption) | assumption)
                              have q156 : x10_2 < (l0.length : Int) := of_decide_eq_true (by first | (with_reducible assumption) | assumption)
                              obtain ⟨ad156, e156, hx156_0, hx156_1, hx156_2, hx156_3⟩ := at_T29 HR0.out x10_2 p156 q156
                              (try rw [← Nbq33.out] at hx156_3)
                              obtain rfl : ad154 = ad156 := (by injection e156)
                              replace hx156_0 := (HB.out.cell (World.block_lt_of_cell? w _ hx156_0)).trans hx156_0
                              replace hx156_1 := (HB.out.cell (World.block_lt_of_cell? w _ hx156_1)).trans hx156_1
                              replace hx156_2 := (HB.out.cell (World.block_lt_of_cell? w _ hx156_2)).trans hx156_2
                              replace hx156_3 := (HB.out.cell (World.block_lt_of_cell? w _ hx156_3)).trans hx156_3
                              replace p156 := eq_true p156
                              replace q156 := eq_true q156
                              go_wp2_with (first | ((with_reducible refine gate_callee (f := 22) rfl ?_); refine goesL_ (some 70) rfl rfl Try.func22 (by kernel_rfl) rfl #[.slice (some ad154) l0.length c0, .int .i64 (wrap64 (1 + (wrap64 (Int.tmod a1 9)))), .int .i64 x10_2] rfl (by (try simp only [List.map_toArray, List.map_cons, List.map_nil]); first | done | rfl | (simp only [List.length_drop, List.length_take]; rfl)) ?_; (with_reducible refine (gate_May.calls k2 _ _ l0 (wrap64 (1 + (wrap64 (Int.tmod a1 9)))) x10_2 t157 _ ?side1 ?side2 A35.out).mono ?_); (case side1 => repeat (first | exact (Kd.C_below HR0.out HB.out) | (with_reducible refine Kd.C_alloc ?_ _) | (with_reducible refine Kd.C_drewN ?_ _) | (with_reducible refine Kd.C_drew ?_))); (case side2 => exact HC0.out); rintro e w50 ⟨rfl, hb⟩; refine ⟨_, rfl, ?_⟩; have n0_ := Aside0.mk (below_step (by repeat (first | (with_reducible first | exact HB.out | apply below_alloc | apply pw_below_drewN | apply below_drew1) | exact HB.out)) hb); clear HB; have HB := n0_; clear n0_; (try clear hb); (try clear hb2); (try clear hk); (try clear hi)))
                              go_ret
                              exact ⟨by first | rfl | (simp [errW_none, errW_some] <;> rfl) | (simp [*, errW_none, errW_some] <;> rfl), by repeat (first | (with_reducible first | exact HB.out | apply below_alloc | apply pw_below_drewN | apply below_drew1) | exact HB.out)⟩
                            · rw [if_neg c49] at H
                              have c49b0 : (t157 != false) = false := by simpa using c49
                              (try (have c49b1 : decide (t157 = false) = true := by simpa using c49))
                              (try (have c49b2 : (t157 == false) = true := by simpa using c49))
                              clear c49
                              have H' := Aside0.mk H
                              clear H
                              have p154 : 0 ≤ (x10_2 : Int) := of_decide_eq_true (by first | (with_reducible assumption) | assumption)
                              have q154 : x10_2 < (l0.length : Int) := of_decide_eq_true (by first | (with_reducible assumption) | assumption)
                              obtain ⟨ad154, e154, hx154_0, hx154_1, hx154_2, hx154_3⟩ := at_T29 HR0.out x10_2 p154 q154
                              (try rw [← Nbq33.out] at hx154_3)
                              cases e154
                              replace hx154_0 := (HB.out.cell (World.block_lt_of_cell? w _ hx154_0)).trans hx154_0
                              replace hx154_1 := (HB.out.cell (World.block_lt_of_cell? w _ hx154_1)).trans hx154_1
                              replace hx154_2 := (HB.out.cell (World.block_lt_of_cell? w _ hx154_2)).trans hx154_2
                              replace hx154_3 := (HB.out.cell (World.block_lt_of_cell? w _ hx154_3)).trans hx154_3
                              replace p154 := eq_true p154
                              replace q154 := eq_true q154
                              have p156 : 0 ≤ (x10_2 : Int) := of_decide_eq_true (by first | (with_reducible assumption) | assumption)
                              have q156 : x10_2 < (l0.length : Int) := of_decide_eq_true (by first | (with_reducible assumption) | assumption)
                              obtain ⟨ad156, e156, hx156_0, hx156_1, hx156_2, hx156_3⟩ := at_T29 HR0.out x10_2 p156 q156
                              (try rw [← Nbq33.out] at hx156_3)
                              obtain rfl : ad154 = ad156 := (by injection e156)
                              replace hx156_0 := (HB.out.cell (World.block_lt_of_cell? w _ hx156_0)).trans hx156_0
                              replace hx156_1 := (HB.out.cell (World.block_lt_of_cell? w _ hx156_1)).trans hx156_1
                              replace hx156_2 := (HB.out.cell (World.block_lt_of_cell? w _ hx156_2)).trans hx156_2
                              replace hx156_3 := (HB.out.cell (World.block_lt_of_cell? w _ hx156_3)).trans hx156_3
                              replace p156 := eq_true p156
                              replace q156 := eq_true q156
                              go_wp2_with (first | ((with_reducible refine gate_callee (f := 22) rfl ?_); refine goesL_ (some 70) rfl rfl Try.func22 (by kernel_rfl) rfl #[.slice (some ad154) l0.length c0, .int .i64 (wrap64 (1 + (wrap64 (Int.tmod a1 9)))), .int .i64 x10_2] rfl (by (try simp only [List.map_toArray, List.map_cons, List.map_nil]); first | done | rfl | (simp only [List.length_drop, List.length_take]; rfl)) ?_; (with_reducible refine (gate_May.calls k2 _ _ l0 (wrap64 (1 + (wrap64 (Int.tmod a1 9)))) x10_2 t157 _ ?side1 ?side2 A35.out).mono ?_); (case side1 => repeat (first | exact (Kd.C_below HR0.out HB.out) | (with_reducible refine Kd.C_alloc ?_ _) | (with_reducible refine Kd.C_drewN ?_ _) | (with_reducible refine Kd.C_drew ?_))); (case side2 => exact HC0.out); rintro e w51 ⟨rfl, hb⟩; refine ⟨_, rfl, ?_⟩; have n0_ := Aside0.mk (below_step (by repeat (first | (with_reducible first | exact HB.out | apply below_alloc | apply pw_below_drewN | apply below_drew1) | exact HB.out)) hb); clear HB; have HB := n0_; clear n0_; (try clear hb); (try clear hb2); (try clear hk); (try clear hi)))
                              go_roundg k2
                              case measure => have := HK1.out; have := HK2.out; omega
                              case rel => exact ⟨(wrap64 (x10_2 + 1)), (by first | rfl | (simp; done) | (simp [*]; done)), H', ⟨by have := HK1.out; have := HK2.out; omega⟩, ⟨by repeat (first | (with_reducible first | exact HB.out | apply below_alloc | apply pw_below_drewN | apply below_drew1) | exact HB.out)⟩⟩
                        · rw [if_neg c44] at H
                          have c44b0 : decide (0 ≤ t152) = false := decide_eq_false c44
                          clear c44
                          have H' := Aside0.mk H
                          clear H
                          have p154 : 0 ≤ (x10_2 : Int) := of_decide_eq_true (by first | (with_reducible assumption) | assumption)
                          have q154 : x10_2 < (l0.length : Int) := of_decide_eq_true (by first | (with_reducible assumption) | assumption)
                          obtain ⟨ad154, e154, hx154_0, hx154_1, hx154_2, hx154_3⟩ := at_T29 HR0.out x10_2 p154 q154
                          (try rw [← Nbq33.out] at hx154_3)
                          cases e154
                          replace hx154_0 := (HB.out.cell (World.block_lt_of_cell? w _ hx154_0)).trans hx154_0
                          replace hx154_1 := (HB.out.cell (World.block_lt_of_cell? w _ hx154_1)).trans hx154_1
                          replace hx154_2 := (HB.out.cell (World.block_lt_of_cell? w _ hx154_2)).trans hx154_2
                          replace hx154_3 := (HB.out.cell (World.block_lt_of_cell? w _ hx154_3)).trans hx154_3
                          replace p154 := eq_true p154
                          replace q154 := eq_true q154
                          have p156 : 0 ≤ (x10_2 : Int) := of_decide_eq_true (by first | (with_reducible assumption) | assumption)
                          have q156 : x10_2 < (l0.length : Int) := of_decide_eq_true (by first | (with_reducible assumption) | assumption)
                          obtain ⟨ad156, e156, hx156_0, hx156_1, hx156_2, hx156_3⟩ := at_T29 HR0.out x10_2 p156 q156
                          (try rw [← Nbq33.out] at hx156_3)
                          obtain rfl : ad154 = ad156 := (by injection e156)
                          replace hx156_0 := (HB.out.cell (World.block_lt_of_cell? w _ hx156_0)).trans hx156_0
                          replace hx156_1 := (HB.out.cell (World.block_lt_of_cell? w _ hx156_1)).trans hx156_1
                          replace hx156_2 := (HB.out.cell (World.block_lt_of_cell? w _ hx156_2)).trans hx156_2
                          replace hx156_3 := (HB.out.cell (World.block_lt_of_cell? w _ hx156_3)).trans hx156_3
                          replace p156 := eq_true p156
                          replace q156 := eq_true q156
                          go_wp2_with (first | ((with_reducible refine gate_callee (f := 22) rfl ?_); refine goesL_ (some 70) rfl rfl Try.func22 (by kernel_rfl) rfl #[.slice (some ad154) l0.length c0, .int .i64 (wrap64 (1 + (wrap64 (Int.tmod a1 9)))), .int .i64 x10_2] rfl (by (try simp only [List.map_toArray, List.map_cons, List.map_nil]); first | done | rfl | (simp only [List.length_drop, List.length_take]; rfl)) ?_; (with_reducible refine (gate_May.calls k2 _ _ l0 (wrap64 (1 + (wrap64 (Int.tmod a1 9)))) x10_2 t157 _ ?side1 ?side2 A35.out).mono ?_); (case side1 => repeat (first | exact (Kd.C_below HR0.out HB.out) | (with_reducible refine Kd.C_alloc ?_ _) | (with_reducible refine Kd.C_drewN ?_ _) | (with_reducible refine Kd.C_drew ?_))); (case side2 => exact HC0.out); rintro e w52 ⟨rfl, hb⟩; refine ⟨_, rfl, ?_⟩; have n0_ := Aside0.mk (below_step (by repeat (first | (with_reducible first | exact HB.out | apply below_alloc | apply pw_below_drewN | apply below_drew1) | exact HB.out)) hb); clear HB; have HB := n0_; clear n0_; (try clear hb); (try clear hb2); (try clear hk); (try clear hi)))
                          go_roundg k2
                          case measure => have := HK1.out; have := HK2.out; omega
                          case rel => exact ⟨(wrap64 (x10_2 + 1)), (by first | rfl | (simp; done) | (simp [*]; done)), H', ⟨by have := HK1.out; have := HK2.out; omega⟩, ⟨by repeat (first | (with_reducible first | exact HB.out | apply below_alloc | apply pw_below_drewN | apply below_drew1) | exact HB.out)⟩⟩
                    · replace c34 := Bool.eq_false_iff.mpr c34
                      subst c34
                      have H1 : ((gate_May.f k2 l0 (wrap64 (1 + (wrap64 (Int.tmod a1 9)))) x10_2).bind fun t159 => (if t152 < 0 then (if (t159 != (decide (((rd_T29 l0 x10_2).f2) ≤ 0))) = true then (some false) else (if t152 ≥ 0 then (if x10_2 = t152 then (if ((rd_T29 l0 x10_2).f2) ≤ 0 then (if (t159 != (!x8_1)) = true then (some false) else (ogivelaw18_GateAlone.l1 k2 l0 t151 (wrap64 (1 + (wrap64 (Int.tmod a1 9)))) t152 x8_1 (wrap64 (x10_2 + 1)))) else (if (t159 != false) = true then (some false) else (ogivelaw18_GateAlone.l1 k2 l0 t151 (wrap64 (1 + (wrap64 (Int.tmod a1 9)))) t152 x8_1 (wrap64 (x10_2 + 1))))) else (if (t159 != false) = true then (some false) else (ogivelaw18_GateAlone.l1 k2 l0 t151 (wrap64 (1 + (wrap64 (Int.tmod a1 9)))) t152 x8_1 (wrap64 (x10_2 + 1))))) else (ogivelaw18_GateAlone.l1 k2 l0 t151 (wrap64 (1 + (wrap64 (Int.tmod a1 9)))) t152 x8_1 (wrap64 (x10_2 + 1))))) else (if t152 ≥ 0 then (if x10_2 = t152 then (if ((rd_T29 l0 x10_2).f2) ≤ 0 then (if (t159 != (!x8_1)) = true then (some false) else (ogivelaw18_GateAlone.l1 k2 l0 t151 (wrap64 (1 + (wrap64 (Int.tmod a1 9)))) t152 x8_1 (wrap64 (x10_2 + 1)))) else (if (t159 != false) = true then (some false) else (ogivelaw18_GateAlone.l1 k2 l0 t151 (wrap64 (1 + (wrap64 (Int.tmod a1 9)))) t152 x8_1 (wrap64 (x10_2 + 1))))) else (if (t159 != false) = true then (some false) else (ogivelaw18_GateAlone.l1 k2 l0 t151 (wrap64 (1 + (wrap64 (Int.tmod a1 9)))) t152 x8_1 (wrap64 (x10_2 + 1))))) else (ogivelaw18_GateAlone.l1 k2 l0 t151 (wrap64 (1 + (wrap64 (Int.tmod a1 9)))) t152 x8_1 (wrap64 (x10_2 + 1)))))) = some r := by rw [if_neg (show ¬ (false = true) by decide)] at H; exact H
                      clear H
                      have H := H1
                      clear H1
                      replace H := Option.bind_eq_some_iff.mp H
                      obtain ⟨t159, A530, H⟩ := H
                      replace H : (if t152 < 0 then (if (t159 != (decide (((rd_T29 l0 x10_2).f2) ≤ 0))) = true then (some false) else (if t152 ≥ 0 then (if x10_2 = t152 then (if ((rd_T29 l0 x10_2).f2) ≤ 0 then (if (t159 != (!x8_1)) = true then (some false) else (ogivelaw18_GateAlone.l1 k2 l0 t151 (wrap64 (1 + (wrap64 (Int.tmod a1 9)))) t152 x8_1 (wrap64 (x10_2 + 1)))) else (if (t159 != false) = true then (some false) else (ogivelaw18_GateAlone.l1 k2 l0 t151 (wrap64 (1 + (wrap64 (Int.tmod a1 9)))) t152 x8_1 (wrap64 (x10_2 + 1))))) else (if (t159 != false) = true then (some false) else (ogivelaw18_GateAlone.l1 k2 l0 t151 (wrap64 (1 + (wrap64 (Int.tmod a1 9)))) t152 x8_1 (wrap64 (x10_2 + 1))))) else (ogivelaw18_GateAlone.l1 k2 l0 t151 (wrap64 (1 + (wrap64 (Int.tmod a1 9)))) t152 x8_1 (wrap64 (x10_2 + 1))))) else (if t152 ≥ 0 then (if x10_2 = t152 then (if ((rd_T29 l0 x10_2).f2) ≤ 0 then (if (t159 != (!x8_1)) = true then (some false) else (ogivelaw18_GateAlone.l1 k2 l0 t151 (wrap64 (1 + (wrap64 (Int.tmod a1 9)))) t152 x8_1 (wrap64 (x10_2 + 1)))) else (if (t159 != false) = true then (some false) else (ogivelaw18_GateAlone.l1 k2 l0 t151 (wrap64 (1 + (wrap64 (Int.tmod a1 9)))) t152 x8_1 (wrap64 (x10_2 + 1))))) else (if (t159 != false) = true then (some false) else (ogivelaw18_GateAlone.l1 k2 l0 t151 (wrap64 (1 + (wrap64 (Int.tmod a1 9)))) t152 x8_1 (wrap64 (x10_2 + 1))))) else (ogivelaw18_GateAlone.l1 k2 l0 t151 (wrap64 (1 + (wrap64 (Int.tmod a1 9)))) t152 x8_1 (wrap64 (x10_2 + 1))))) = some r := H
                      have A53 := Aside0.mk A530
                      clear A530
                      by_cases c54 : t152 < 0
                      · rw [if_pos c54] at H
                        have c54b0 : decide (t152 < 0) = true := decide_eq_true c54
                        clear c54
                        by_cases c55 : (t159 != (decide (((rd_T29 l0 x10_2).f2) ≤ 0))) = true
                        · rw [if_pos c55] at H
                          have c55b0 : (t159 != (decide (((rd_T29 l0 x10_2).f2) ≤ 0))) = true := c55
                          (try (have c55b1 : decide (t159 = (decide (((rd_T29 l0 x10_2).f2) ≤ 0))) = false := by simpa using c55))
                          (try (have c55b2 : (t159 == (decide (((rd_T29 l0 x10_2).f2) ≤ 0))) = false := by simpa using c55))
                          (try (have c55b3 : ¬ (t159 = (decide (((rd_T29 l0 x10_2).f2) ≤ 0))) := by simpa using c55))
                          clear c55
                          obtain rfl := Option.some.inj H
                          have p154 : 0 ≤ (x10_2 : Int) := of_decide_eq_true (by first | (with_reducible assumption) | assumption)
                          have q154 : x10_2 < (l0.length : Int) := of_decide_eq_true (by first | (with_reducible assumption) | assumption)
                          obtain ⟨ad154, e154, hx154_0, hx154_1, hx154_2, hx154_3⟩ := at_T29 HR0.out x10_2 p154 q154
                          (try rw [← Nbq33.out] at hx154_3)
                          cases e154
                          replace hx154_0 := (HB.out.cell (World.block_lt_of_cell? w _ hx154_0)).trans hx154_0
                          replace hx154_1 := (HB.out.cell (World.block_lt_of_cell? w _ hx154_1)).trans hx154_1
                          replace hx154_2 := (HB.out.cell (World.block_lt_of_cell? w _ hx154_2)).trans hx154_2
                          replace hx154_3 := (HB.out.cell (World.block_lt_of_cell? w _ hx154_3)).trans hx154_3
                          replace p154 := eq_true p154
                          replace q154 := eq_true q154
                          have p156 : 0 ≤ (x10_2 : Int) := of_decide_eq_true (by first | (with_reducible assumption) | assumption)
                          have q156 : x10_2 < (l0.length : Int) := of_decide_eq_true (by first | (with_reducible assumption) | assumption)
                          obtain ⟨ad156, e156, hx156_0, hx156_1, hx156_2, hx156_3⟩ := at_T29 HR0.out x10_2 p156 q156
                          (try rw [← Nbq33.out] at hx156_3)
                          obtain rfl : ad154 = ad156 := (by injection e156)
                          replace hx156_0 := (HB.out.cell (World.block_lt_of_cell? w _ hx156_0)).trans hx156_0
                          replace hx156_1 := (HB.out.cell (World.block_lt_of_cell? w _ hx156_1)).trans hx156_1
                          replace hx156_2 := (HB.out.cell (World.block_lt_of_cell? w _ hx156_2)).trans hx156_2
                          replace hx156_3 := (HB.out.cell (World.block_lt_of_cell? w _ hx156_3)).trans hx156_3
                          replace p156 := eq_true p156
                          replace q156 := eq_true q156
                          have p158 : 0 ≤ (x10_2 : Int) := of_decide_eq_true (by first | (with_reducible assumption) | assumption)
                          have q158 : x10_2 < (l0.length : Int) := of_decide_eq_true (by first | (with_reducible assumption) | assumption)
                          obtain ⟨ad158, e158, hx158_0, hx158_1, hx158_2, hx158_3⟩ := at_T29 HR0.out x10_2 p158 q158
                          (try rw [← Nbq33.out] at hx158_3)
                          obtain rfl : ad154 = ad158 := (by injection e158)
                          replace hx158_0 := (HB.out.cell (World.block_lt_of_cell? w _ hx158_0)).trans hx158_0
                          replace hx158_1 := (HB.out.cell (World.block_lt_of_cell? w _ hx158_1)).trans hx158_1
                          replace hx158_2 := (HB.out.cell (World.block_lt_of_cell? w _ hx158_2)).trans hx158_2
                          replace hx158_3 := (HB.out.cell (World.block_lt_of_cell? w _ hx158_3)).trans hx158_3
                          replace p158 := eq_true p158
                          replace q158 := eq_true q158
                          go_wp2_with (first | ((with_reducible refine gate_callee (f := 22) rfl ?_); refine goesL_ (some 70) rfl rfl Try.func22 (by kernel_rfl) rfl #[.slice (some ad154) l0.length c0, .int .i64 (wrap64 (1 + (wrap64 (Int.tmod a1 9)))), .int .i64 x10_2] rfl (by (try simp only [List.map_toArray, List.map_cons, List.map_nil]); first | done | rfl | (simp only [List.length_drop, List.length_take]; rfl)) ?_; (with_reducible refine (gate_May.calls k2 _ _ l0 (wrap64 (1 + (wrap64 (Int.tmod a1 9)))) x10_2 t159 _ ?side1 ?side2 A53.out).mono ?_); (case side1 => repeat (first | exact (Kd.C_below HR0.out HB.out) | (with_reducible refine Kd.C_alloc ?_ _) | (with_reducible refine Kd.C_drewN ?_ _) | (with_reducible refine Kd.C_drew ?_))); (case side2 => exact HC0.out); rintro e w56 ⟨rfl, hb⟩; refine ⟨_, rfl, ?_⟩; have n0_ := Aside0.mk (below_step (by repeat (first | (with_reducible first | exact HB.out | apply below_alloc | apply pw_below_drewN | apply below_drew1) | exact HB.out)) hb); clear HB; have HB := n0_; clear n0_; (try clear hb); (try clear hb2); (try clear hk); (try clear hi)))
                          go_ret
                          exact ⟨by first | rfl | (simp [errW_none, errW_some] <;> rfl) | (simp [*, errW_none, errW_some] <;> rfl), by repeat (first | (with_reducible first | exact HB.out | apply below_alloc | apply pw_below_drewN | apply below_drew1) | exact HB.out)⟩
                        · rw [if_neg c55] at H
                          have c55b0 : (t159 != (decide (((rd_T29 l0 x10_2).f2) ≤ 0))) = false := by simpa using c55
                          (try (have c55b1 : decide (t159 = (decide (((rd_T29 l0 x10_2).f2) ≤ 0))) = true := by simpa using c55))
                          (try (have c55b2 : (t159 == (decide (((rd_T29 l0 x10_2).f2) ≤ 0))) = true := by simpa using c55))
                          clear c55
                          by_cases c57 : t152 ≥ 0
                          · exact absurd (of_decide_eq_true c54b0) (by omega)
                          · rw [if_neg c57] at H
                            have c57b0 : decide (0 ≤ t152) = false := decide_eq_false c57
                            clear c57
                            have H' := Aside0.mk H
                            clear H
                            have p154 : 0 ≤ (x10_2 : Int) := of_decide_eq_true (by first | (with_reducible assumption) | assumption)
                            have q154 : x10_2 < (l0.length : Int) := of_decide_eq_true (by first | (with_reducible assumption) | assumption)
                            obtain ⟨ad154, e154, hx154_0, hx154_1, hx154_2, hx154_3⟩ := at_T29 HR0.out x10_2 p154 q154
                            (try rw [← Nbq33.out] at hx154_3)
                            cases e154
                            replace hx154_0 := (HB.out.cell (World.block_lt_of_cell? w _ hx154_0)).trans hx154_0
                            replace hx154_1 := (HB.out.cell (World.block_lt_of_cell? w _ hx154_1)).trans hx154_1
                            replace hx154_2 := (HB.out.cell (World.block_lt_of_cell? w _ hx154_2)).trans hx154_2
                            replace hx154_3 := (HB.out.cell (World.block_lt_of_cell? w _ hx154_3)).trans hx154_3
                            replace p154 := eq_true p154
                            replace q154 := eq_true q154
                            have p156 : 0 ≤ (x10_2 : Int) := of_decide_eq_true (by first | (with_reducible assumption) | assumption)
                            have q156 : x10_2 < (l0.length : Int) := of_decide_eq_true (by first | (with_reducible assumption) | assumption)
                            obtain ⟨ad156, e156, hx156_0, hx156_1, hx156_2, hx156_3⟩ := at_T29 HR0.out x10_2 p156 q156
                            (try rw [← Nbq33.out] at hx156_3)
                            obtain rfl : ad154 = ad156 := (by injection e156)
                            replace hx156_0 := (HB.out.cell (World.block_lt_of_cell? w _ hx156_0)).trans hx156_0
                            replace hx156_1 := (HB.out.cell (World.block_lt_of_cell? w _ hx156_1)).trans hx156_1
                            replace hx156_2 := (HB.out.cell (World.block_lt_of_cell? w _ hx156_2)).trans hx156_2
                            replace hx156_3 := (HB.out.cell (World.block_lt_of_cell? w _ hx156_3)).trans hx156_3
                            replace p156 := eq_true p156
                            replace q156 := eq_true q156
                            have p158 : 0 ≤ (x10_2 : Int) := of_decide_eq_true (by first | (with_reducible assumption) | assumption)
                            have q158 : x10_2 < (l0.length : Int) := of_decide_eq_true (by first | (with_reducible assumption) | assumption)
                            obtain ⟨ad158, e158, hx158_0, hx158_1, hx158_2, hx158_3⟩ := at_T29 HR0.out x10_2 p158 q158
                            (try rw [← Nbq33.out] at hx158_3)
                            obtain rfl : ad154 = ad158 := (by injection e158)
                            replace hx158_0 := (HB.out.cell (World.block_lt_of_cell? w _ hx158_0)).trans hx158_0
                            replace hx158_1 := (HB.out.cell (World.block_lt_of_cell? w _ hx158_1)).trans hx158_1
                            replace hx158_2 := (HB.out.cell (World.block_lt_of_cell? w _ hx158_2)).trans hx158_2
                            replace hx158_3 := (HB.out.cell (World.block_lt_of_cell? w _ hx158_3)).trans hx158_3
                            replace p158 := eq_true p158
                            replace q158 := eq_true q158
                            go_wp2_with (first | ((with_reducible refine gate_callee (f := 22) rfl ?_); refine goesL_ (some 70) rfl rfl Try.func22 (by kernel_rfl) rfl #[.slice (some ad154) l0.length c0, .int .i64 (wrap64 (1 + (wrap64 (Int.tmod a1 9)))), .int .i64 x10_2] rfl (by (try simp only [List.map_toArray, List.map_cons, List.map_nil]); first | done | rfl | (simp only [List.length_drop, List.length_take]; rfl)) ?_; (with_reducible refine (gate_May.calls k2 _ _ l0 (wrap64 (1 + (wrap64 (Int.tmod a1 9)))) x10_2 t159 _ ?side1 ?side2 A53.out).mono ?_); (case side1 => repeat (first | exact (Kd.C_below HR0.out HB.out) | (with_reducible refine Kd.C_alloc ?_ _) | (with_reducible refine Kd.C_drewN ?_ _) | (with_reducible refine Kd.C_drew ?_))); (case side2 => exact HC0.out); rintro e w69 ⟨rfl, hb⟩; refine ⟨_, rfl, ?_⟩; have n0_ := Aside0.mk (below_step (by repeat (first | (with_reducible first | exact HB.out | apply below_alloc | apply pw_below_drewN | apply below_drew1) | exact HB.out)) hb); clear HB; have HB := n0_; clear n0_; (try clear hb); (try clear hb2); (try clear hk); (try clear hi)))
                            go_roundg k2
                            case measure => have := HK1.out; have := HK2.out; omega
                            case rel => exact ⟨(wrap64 (x10_2 + 1)), (by first | rfl | (simp; done) | (simp [*]; done)), H', ⟨by have := HK1.out; have := HK2.out; omega⟩, ⟨by repeat (first | (with_reducible first | exact HB.out | apply below_alloc | apply pw_below_drewN | apply below_drew1) | exact HB.out)⟩⟩
                      · rw [if_neg c54] at H
                        have c54b0 : decide (t152 < 0) = false := decide_eq_false c54
                        clear c54
                        by_cases c70 : t152 ≥ 0
                        · rw [if_pos c70] at H
                          have c70b0 : decide (0 ≤ t152) = true := decide_eq_true c70
                          clear c70
                          by_cases c71 : x10_2 = t152
                          · rw [if_pos c71] at H
                            have c71b0 : (x10_2 == t152) = true := beq_iff_eq.mpr c71
                            have c71b1 : (x10_2 != t152) = false := bne_eq_false_iff_eq.mpr c71
                            clear c71
                            by_cases c72 : ((rd_T29 l0 x10_2).f2) ≤ 0
                            · rw [if_pos c72] at H
                              have c72b0 : decide (((rd_T29 l0 x10_2).f2) ≤ 0) = true := decide_eq_true c72
                              clear c72
                              by_cases c73 : (t159 != (!x8_1)) = true
                              · rw [if_pos c73] at H
                                have c73b0 : (t159 != (!x8_1)) = true := c73
                                (try (have c73b1 : decide (t159 = (!x8_1)) = false := by simpa using c73))
                                (try (have c73b2 : (t159 == (!x8_1)) = false := by simpa using c73))
                                (try (have c73b3 : ¬ (t159 = (!x8_1)) := by simpa using c73))
                                clear c73
                                obtain rfl := Option.some.inj H
                                have p154 : 0 ≤ (x10_2 : Int) := of_decide_eq_true (by first | (with_reducible assumption) | assumption)
                                have q154 : x10_2 < (l0.length : Int) := of_decide_eq_true (by first | (with_reducible assumption) | assumption)
                                obtain ⟨ad154, e154, hx154_0, hx154_1, hx154_2, hx154_3⟩ := at_T29 HR0.out x10_2 p154 q154
                                (try rw [← Nbq33.out] at hx154_3)
                                cases e154
                                replace hx154_0 := (HB.out.cell (World.block_lt_of_cell? w _ hx154_0)).trans hx154_0
                                replace hx154_1 := (HB.out.cell (World.block_lt_of_cell? w _ hx154_1)).trans hx154_1
                                replace hx154_2 := (HB.out.cell (World.block_lt_of_cell? w _ hx154_2)).trans hx154_2
                                replace hx154_3 := (HB.out.cell (World.block_lt_of_cell? w _ hx154_3)).trans hx154_3
                                replace p154 := eq_true p154
                                replace q154 := eq_true q154
                                have p156 : 0 ≤ (x10_2 : Int) := of_decide_eq_true (by first | (with_reducible assumption) | assumption)
                                have q156 : x10_2 < (l0.length : Int) := of_decide_eq_true (by first | (with_reducible assumption) | assumption)
                                obtain ⟨ad156, e156, hx156_0, hx156_1, hx156_2, hx156_3⟩ := at_T29 HR0.out x10_2 p156 q156
                                (try rw [← Nbq33.out] at hx156_3)
                                obtain rfl : ad154 = ad156 := (by injection e156)
                                replace hx156_0 := (HB.out.cell (World.block_lt_of_cell? w _ hx156_0)).trans hx156_0
                                replace hx156_1 := (HB.out.cell (World.block_lt_of_cell? w _ hx156_1)).trans hx156_1
                                replace hx156_2 := (HB.out.cell (World.block_lt_of_cell? w _ hx156_2)).trans hx156_2
                                replace hx156_3 := (HB.out.cell (World.block_lt_of_cell? w _ hx156_3)).trans hx156_3
                                replace p156 := eq_true p156
                                replace q156 := eq_true q156
                                have p158 : 0 ≤ (x10_2 : Int) := of_decide_eq_true (by first | (with_reducible assumption) | assumption)
                                have q158 : x10_2 < (l0.length : Int) := of_decide_eq_true (by first | (with_reducible assumption) | assumption)
                                obtain ⟨ad158, e158, hx158_0, hx158_1, hx158_2, hx158_3⟩ := at_T29 HR0.out x10_2 p158 q158
                                (try rw [← Nbq33.out] at hx158_3)
                                obtain rfl : ad154 = ad158 := (by injection e158)
                                replace hx158_0 := (HB.out.cell (World.block_lt_of_cell? w _ hx158_0)).trans hx158_0
                                replace hx158_1 := (HB.out.cell (World.block_lt_of_cell? w _ hx158_1)).trans hx158_1
                                replace hx158_2 := (HB.out.cell (World.block_lt_of_cell? w _ hx158_2)).trans hx158_2
                                replace hx158_3 := (HB.out.cell (World.block_lt_of_cell? w _ hx158_3)).trans hx158_3
                                replace p158 := eq_true p158
                                replace q158 := eq_true q158
                                go_wp2_with (first | ((with_reducible refine gate_callee (f := 22) rfl ?_); refine goesL_ (some 70) rfl rfl Try.func22 (by kernel_rfl) rfl #[.slice (some ad154) l0.length c0, .int .i64 (wrap64 (1 + (wrap64 (Int.tmod a1 9)))), .int .i64 x10_2] rfl (by (try simp only [List.map_toArray, List.map_cons, List.map_nil]); first | done | rfl | (simp only [List.length_drop, List.length_take]; rfl)) ?_; (with_reducible refine (gate_May.calls k2 _ _ l0 (wrap64 (1 + (wrap64 (Int.tmod a1 9)))) x10_2 t159 _ ?side1 ?side2 A53.out).mono ?_); (case side1 => repeat (first | exact (Kd.C_below HR0.out HB.out) | (with_reducible refine Kd.C_alloc ?_ _) | (with_reducible refine Kd.C_drewN ?_ _) | (with_reducible refine Kd.C_drew ?_))); (case side2 => exact HC0.out); rintro e w74 ⟨rfl, hb⟩; refine ⟨_, rfl, ?_⟩; have n0_ := Aside0.mk (below_step (by repeat (first | (with_reducible first | exact HB.out | apply below_alloc | apply pw_below_drewN | apply below_drew1) | exact HB.out)) hb); clear HB; have HB := n0_; clear n0_; (try clear hb); (try clear hb2); (try clear hk); (try clear hi)))
                                go_ret
                                exact ⟨by first | rfl | (simp [errW_none, errW_some] <;> rfl) | (simp [*, errW_none, errW_some] <;> rfl), by repeat (first | (with_reducible first | exact HB.out | apply below_alloc | apply pw_below_drewN | apply below_drew1) | exact HB.out)⟩
                              · rw [if_neg c73] at H
                                have c73b0 : (t159 != (!x8_1)) = false := by simpa using c73
                                (try (have c73b1 : decide (t159 = (!x8_1)) = true := by simpa using c73))
                                (try (have c73b2 : (t159 == (!x8_1)) = true := by simpa using c73))
                                clear c73
                                have c73b4 : (t159 == x8_1) = false := by revert c73b0; cases t159 <;> cases x8_1 <;> decide
                                have c73b5 : (t159 != x8_1) = true := by revert c73b0; cases t159 <;> cases x8_1 <;> decide
                                have c73b6 : ¬ t159 = x8_1 := by revert c73b0; cases t159 <;> cases x8_1 <;> decide
                                have c73b7 : (t159 == !x8_1) = true := by revert c73b0; cases t159 <;> cases x8_1 <;> decide
                                have H' := Aside0.mk H
                                clear H
                                have p154 : 0 ≤ (x10_2 : Int) := of_decide_eq_true (by first | (with_reducible assumption) | assumption)
                                have q154 : x10_2 < (l0.length : Int) := of_decide_eq_true (by first | (with_reducible assumption) | assumption)
                                obtain ⟨ad154, e154, hx154_0, hx154_1, hx154_2, hx154_3⟩ := at_T29 HR0.out x10_2 p154 q154
                                (try rw [← Nbq33.out] at hx154_3)
                                cases e154
                                replace hx154_0 := (HB.out.cell (World.block_lt_of_cell? w _ hx154_0)).trans hx154_0
                                replace hx154_1 := (HB.out.cell (World.block_lt_of_cell? w _ hx154_1)).trans hx154_1
                                replace hx154_2 := (HB.out.cell (World.block_lt_of_cell? w _ hx154_2)).trans hx154_2
                                replace hx154_3 := (HB.out.cell (World.block_lt_of_cell? w _ hx154_3)).trans hx154_3
                                replace p154 := eq_true p154
                                replace q154 := eq_true q154
                                have p156 : 0 ≤ (x10_2 : Int) := of_decide_eq_true (by first | (with_reducible assumption) | assumption)
                                have q156 : x10_2 < (l0.length : Int) := of_decide_eq_true (by first | (with_reducible assumption) | assumption)
                                obtain ⟨ad156, e156, hx156_0, hx156_1, hx156_2, hx156_3⟩ := at_T29 HR0.out x10_2 p156 q156
                                (try rw [← Nbq33.out] at hx156_3)
                                obtain rfl : ad154 = ad156 := (by injection e156)
                                replace hx156_0 := (HB.out.cell (World.block_lt_of_cell? w _ hx156_0)).trans hx156_0
                                replace hx156_1 := (HB.out.cell (World.block_lt_of_cell? w _ hx156_1)).trans hx156_1
                                replace hx156_2 := (HB.out.cell (World.block_lt_of_cell? w _ hx156_2)).trans hx156_2
                                replace hx156_3 := (HB.out.cell (World.block_lt_of_cell? w _ hx156_3)).trans hx156_3
                                replace p156 := eq_true p156
                                replace q156 := eq_true q156
                                have p158 : 0 ≤ (x10_2 : Int) := of_decide_eq_true (by first | (with_reducible assumption) | assumption)
                                have q158 : x10_2 < (l0.length : Int) := of_decide_eq_true (by first | (with_reducible assumption) | assumption)
                                obtain ⟨ad158, e158, hx158_0, hx158_1, hx158_2, hx158_3⟩ := at_T29 HR0.out x10_2 p158 q158
                                (try rw [← Nbq33.out] at hx158_3)
                                obtain rfl : ad154 = ad158 := (by injection e158)
                                replace hx158_0 := (HB.out.cell (World.block_lt_of_cell? w _ hx158_0)).trans hx158_0
                                replace hx158_1 := (HB.out.cell (World.block_lt_of_cell? w _ hx158_1)).trans hx158_1
                                replace hx158_2 := (HB.out.cell (World.block_lt_of_cell? w _ hx158_2)).trans hx158_2
                                replace hx158_3 := (HB.out.cell (World.block_lt_of_cell? w _ hx158_3)).trans hx158_3
                                replace p158 := eq_true p158
                                replace q158 := eq_true q158
                                go_wp2_with (first | ((with_reducible refine gate_callee (f := 22) rfl ?_); refine goesL_ (some 70) rfl rfl Try.func22 (by kernel_rfl) rfl #[.slice (some ad154) l0.length c0, .int .i64 (wrap64 (1 + (wrap64 (Int.tmod a1 9)))), .int .i64 x10_2] rfl (by (try simp only [List.map_toArray, List.map_cons, List.map_nil]); first | done | rfl | (simp only [List.length_drop, List.length_take]; rfl)) ?_; (with_reducible refine (gate_May.calls k2 _ _ l0 (wrap64 (1 + (wrap64 (Int.tmod a1 9)))) x10_2 t159 _ ?side1 ?side2 A53.out).mono ?_); (case side1 => repeat (first | exact (Kd.C_below HR0.out HB.out) | (with_reducible refine Kd.C_alloc ?_ _) | (with_reducible refine Kd.C_drewN ?_ _) | (with_reducible refine Kd.C_drew ?_))); (case side2 => exact HC0.out); rintro e w75 ⟨rfl, hb⟩; refine ⟨_, rfl, ?_⟩; have n0_ := Aside0.mk (below_step (by repeat (first | (with_reducible first | exact HB.out | apply below_alloc | apply pw_below_drewN | apply below_drew1) | exact HB.out)) hb); clear HB; have HB := n0_; clear n0_; (try clear hb); (try clear hb2); (try clear hk); (try clear hi)))
                                go_roundg k2
                                case measure => have := HK1.out; have := HK2.out; omega
                                case rel => exact ⟨(wrap64 (x10_2 + 1)), (by first | rfl | (simp; done) | (simp [*]; done)), H', ⟨by have := HK1.out; have := HK2.out; omega⟩, ⟨by repeat (first | (with_reducible first | exact HB.out | apply below_alloc | apply pw_below_drewN | apply below_drew1) | exact HB.out)⟩⟩
                            · rw [if_neg c72] at H
                              have c72b0 : decide (((rd_T29 l0 x10_2).f2) ≤ 0) = false := decide_eq_false c72
                              clear c72
                              by_cases c76 : (t159 != false) = true
                              · rw [if_pos c76] at H
                                have c76b0 : (t159 != false) = true := c76
                                (try (have c76b1 : decide (t159 = false) = false := by simpa using c76))
                                (try (have c76b2 : (t159 == false) = false := by simpa using c76))
                                (try (have c76b3 : ¬ (t159 = false) := by simpa using c76))
                                clear c76
                                obtain rfl := Option.some.inj H
                                have p154 : 0 ≤ (x10_2 : Int) := of_decide_eq_true (by first | (with_reducible assumption) | assumption)
                                have q154 : x10_2 < (l0.length : Int) := of_decide_eq_true (by first | (with_reducible assumption) | assumption)
                                obtain ⟨ad154, e154, hx154_0, hx154_1, hx154_2, hx154_3⟩ := at_T29 HR0.out x10_2 p154 q154
                                (try rw [← Nbq33.out] at hx154_3)
                                cases e154
                                replace hx154_0 := (HB.out.cell (World.block_lt_of_cell? w _ hx154_0)).trans hx154_0
                                replace hx154_1 := (HB.out.cell (World.block_lt_of_cell? w _ hx154_1)).trans hx154_1
                                replace hx154_2 := (HB.out.cell (World.block_lt_of_cell? w _ hx154_2)).trans hx154_2
                                replace hx154_3 := (HB.out.cell (World.block_lt_of_cell? w _ hx154_3)).trans hx154_3
                                replace p154 := eq_true p154
                                replace q154 := eq_true q154
                                have p156 : 0 ≤ (x10_2 : Int) := of_decide_eq_true (by first | (with_reducible assumption) | assumption)
                                have q156 : x10_2 < (l0.length : Int) := of_decide_eq_true (by first | (with_reducible assumption) | assumption)
                                obtain ⟨ad156, e156, hx156_0, hx156_1, hx156_2, hx156_3⟩ := at_T29 HR0.out x10_2 p156 q156
                                (try rw [← Nbq33.out] at hx156_3)
                                obtain rfl : ad154 = ad156 := (by injection e156)
                                replace hx156_0 := (HB.out.cell (World.block_lt_of_cell? w _ hx156_0)).trans hx156_0
                                replace hx156_1 := (HB.out.cell (World.block_lt_of_cell? w _ hx156_1)).trans hx156_1
                                replace hx156_2 := (HB.out.cell (World.block_lt_of_cell? w _ hx156_2)).trans hx156_2
                                replace hx156_3 := (HB.out.cell (World.block_lt_of_cell? w _ hx156_3)).trans hx156_3
                                replace p156 := eq_true p156
                                replace q156 := eq_true q156
                                have p158 : 0 ≤ (x10_2 : Int) := of_decide_eq_true (by first | (with_reducible assumption) | assumption)
                                have q158 : x10_2 < (l0.length : Int) := of_decide_eq_true (by first | (with_reducible assumption) | assumption)
                                obtain ⟨ad158, e158, hx158_0, hx158_1, hx158_2, hx158_3⟩ := at_T29 HR0.out x10_2 p158 q158
                                (try rw [← Nbq33.out] at hx158_3)
                                obtain rfl : ad154 = ad158 := (by injection e158)
                                replace hx158_0 := (HB.out.cell (World.block_lt_of_cell? w _ hx158_0)).trans hx158_0
                                replace hx158_1 := (HB.out.cell (World.block_lt_of_cell? w _ hx158_1)).trans hx158_1
                                replace hx158_2 := (HB.out.cell (World.block_lt_of_cell? w _ hx158_2)).trans hx158_2
                                replace hx158_3 := (HB.out.cell (World.block_lt_of_cell? w _ hx158_3)).trans hx158_3
                                replace p158 := eq_true p158
                                replace q158 := eq_true q158
                                go_wp2_with (first | ((with_reducible refine gate_callee (f := 22) rfl ?_); refine goesL_ (some 70) rfl rfl Try.func22 (by kernel_rfl) rfl #[.slice (some ad154) l0.length c0, .int .i64 (wrap64 (1 + (wrap64 (Int.tmod a1 9)))), .int .i64 x10_2] rfl (by (try simp only [List.map_toArray, List.map_cons, List.map_nil]); first | done | rfl | (simp only [List.length_drop, List.length_take]; rfl)) ?_; (with_reducible refine (gate_May.calls k2 _ _ l0 (wrap64 (1 + (wrap64 (Int.tmod a1 9)))) x10_2 t159 _ ?side1 ?side2 A53.out).mono ?_); (case side1 => repeat (first | exact (Kd.C_below HR0.out HB.out) | (with_reducible refine Kd.C_alloc ?_ _) | (with_reducible refine Kd.C_drewN ?_ _) | (with_reducible refine Kd.C_drew ?_))); (case side2 => exact HC0.out); rintro e w77 ⟨rfl, hb⟩; refine ⟨_, rfl, ?_⟩; have n0_ := Aside0.mk (below_step (by repeat (first | (with_reducible first | exact HB.out | apply below_alloc | apply pw_below_drewN | apply below_drew1) | exact HB.out)) hb); clear HB; have HB := n0_; clear n0_; (try clear hb); (try clear hb2); (try clear hk); (try clear hi)))
                                go_ret
                                exact ⟨by first | rfl | (simp [errW_none, errW_some] <;> rfl) | (simp [*, errW_none, errW_some] <;> rfl), by repeat (first | (with_reducible first | exact HB.out | apply below_alloc | apply pw_below_drewN | apply below_drew1) | exact HB.out)⟩
                              · rw [if_neg c76] at H
                                have c76b0 : (t159 != false) = false := by simpa using c76
                                (try (have c76b1 : decide (t159 = false) = true := by simpa using c76))
                                (try (have c76b2 : (t159 == false) = true := by simpa using c76))
                                clear c76
                                have H' := Aside0.mk H
                                clear H
                                have p154 : 0 ≤ (x10_2 : Int) := of_decide_eq_true (by first | (with_reducible assumption) | assumption)
                                have q154 : x10_2 < (l0.length : Int) := of_decide_eq_true (by first | (with_reducible assumption) | assumption)
                                obtain ⟨ad154, e154, hx154_0, hx154_1, hx154_2, hx154_3⟩ := at_T29 HR0.out x10_2 p154 q154
                                (try rw [← Nbq33.out] at hx154_3)
                                cases e154
                                replace hx154_0 := (HB.out.cell (World.block_lt_of_cell? w _ hx154_0)).trans hx154_0
                                replace hx154_1 := (HB.out.cell (World.block_lt_of_cell? w _ hx154_1)).trans hx154_1
                                replace hx154_2 := (HB.out.cell (World.block_lt_of_cell? w _ hx154_2)).trans hx154_2
                                replace hx154_3 := (HB.out.cell (World.block_lt_of_cell? w _ hx154_3)).trans hx154_3
                                replace p154 := eq_true p154
                                replace q154 := eq_true q154
                                have p156 : 0 ≤ (x10_2 : Int) := of_decide_eq_true (by first | (with_reducible assumption) | assumption)
                                have q156 : x10_2 < (l0.length : Int) := of_decide_eq_true (by first | (with_reducible assumption) | assumption)
                                obtain ⟨ad156, e156, hx156_0, hx156_1, hx156_2, hx156_3⟩ := at_T29 HR0.out x10_2 p156 q156
                                (try rw [← Nbq33.out] at hx156_3)
                                obtain rfl : ad154 = ad156 := (by injection e156)
                                replace hx156_0 := (HB.out.cell (World.block_lt_of_cell? w _ hx156_0)).trans hx156_0
                                replace hx156_1 := (HB.out.cell (World.block_lt_of_cell? w _ hx156_1)).trans hx156_1
                                replace hx156_2 := (HB.out.cell (World.block_lt_of_cell? w _ hx156_2)).trans hx156_2
                                replace hx156_3 := (HB.out.cell (World.block_lt_of_cell? w _ hx156_3)).trans hx156_3
                                replace p156 := eq_true p156
                                replace q156 := eq_true q156
                                have p158 : 0 ≤ (x10_2 : Int) := of_decide_eq_true (by first | (with_reducible assumption) | assumption)
                                have q158 : x10_2 < (l0.length : Int) := of_decide_eq_true (by first | (with_reducible assumption) | assumption)
                                obtain ⟨ad158, e158, hx158_0, hx158_1, hx158_2, hx158_3⟩ := at_T29 HR0.out x10_2 p158 q158
                                (try rw [← Nbq33.out] at hx158_3)
                                obtain rfl : ad154 = ad158 := (by injection e158)
                                replace hx158_0 := (HB.out.cell (World.block_lt_of_cell? w _ hx158_0)).trans hx158_0
                                replace hx158_1 := (HB.out.cell (World.block_lt_of_cell? w _ hx158_1)).trans hx158_1
                                replace hx158_2 := (HB.out.cell (World.block_lt_of_cell? w _ hx158_2)).trans hx158_2
                                replace hx158_3 := (HB.out.cell (World.block_lt_of_cell? w _ hx158_3)).trans hx158_3
                                replace p158 := eq_true p158
                                replace q158 := eq_true q158
                                go_wp2_with (first | ((with_reducible refine gate_callee (f := 22) rfl ?_); refine goesL_ (some 70) rfl rfl Try.func22 (by kernel_rfl) rfl #[.slice (some ad154) l0.length c0, .int .i64 (wrap64 (1 + (wrap64 (Int.tmod a1 9)))), .int .i64 x10_2] rfl (by (try simp only [List.map_toArray, List.map_cons, List.map_nil]); first | done | rfl | (simp only [List.length_drop, List.length_take]; rfl)) ?_; (with_reducible refine (gate_May.calls k2 _ _ l0 (wrap64 (1 + (wrap64 (Int.tmod a1 9)))) x10_2 t159 _ ?side1 ?side2 A53.out).mono ?_); (case side1 => repeat (first | exact (Kd.C_below HR0.out HB.out) | (with_reducible refine Kd.C_alloc ?_ _) | (with_reducible refine Kd.C_drewN ?_ _) | (with_reducible refine Kd.C_drew ?_))); (case side2 => exact HC0.out); rintro e w78 ⟨rfl, hb⟩; refine ⟨_, rfl, ?_⟩; have n0_ := Aside0.mk (below_step (by repeat (first | (with_reducible first | exact HB.out | apply below_alloc | apply pw_below_drewN | apply below_drew1) | exact HB.out)) hb); clear HB; have HB := n0_; clear n0_; (try clear hb); (try clear hb2); (try clear hk); (try clear hi)))
                                go_roundg k2
                                case measure => have := HK1.out; have := HK2.out; omega
                                case rel => exact ⟨(wrap64 (x10_2 + 1)), (by first | rfl | (simp; done) | (simp [*]; done)), H', ⟨by have := HK1.out; have := HK2.out; omega⟩, ⟨by repeat (first | (with_reducible first | exact HB.out | apply below_alloc | apply pw_below_drewN | apply below_drew1) | exact HB.out)⟩⟩
                          · rw [if_neg c71] at H
                            have c71b0 : (x10_2 == t152) = false := beq_eq_false_iff_ne.mpr c71
                            have c71b1 : (x10_2 != t152) = true := bne_iff_ne.mpr c71
                            by_cases c79 : (t159 != false) = true
                            · rw [if_pos c79] at H
                              have c79b0 : (t159 != false) = true := c79
                              (try (have c79b1 : decide (t159 = false) = false := by simpa using c79))
                              (try (have c79b2 : (t159 == false) = false := by simpa using c79))
                              (try (have c79b3 : ¬ (t159 = false) := by simpa using c79))
                              clear c79
                              obtain rfl := Option.some.inj H
                              have p154 : 0 ≤ (x10_2 : Int) := of_decide_eq_true (by first | (with_reducible assumption) | assumption)
                              have q154 : x10_2 < (l0.length : Int) := of_decide_eq_true (by first | (with_reducible assumption) | assumption)
                              obtain ⟨ad154, e154, hx154_0, hx154_1, hx154_2, hx154_3⟩ := at_T29 HR0.out x10_2 p154 q154
                              (try rw [← Nbq33.out] at hx154_3)
                              cases e154
                              replace hx154_0 := (HB.out.cell (World.block_lt_of_cell? w _ hx154_0)).trans hx154_0
                              replace hx154_1 := (HB.out.cell (World.block_lt_of_cell? w _ hx154_1)).trans hx154_1
                              replace hx154_2 := (HB.out.cell (World.block_lt_of_cell? w _ hx154_2)).trans hx154_2
                              replace hx154_3 := (HB.out.cell (World.block_lt_of_cell? w _ hx154_3)).trans hx154_3
                              replace p154 := eq_true p154
                              replace q154 := eq_true q154
                              have p156 : 0 ≤ (x10_2 : Int) := of_decide_eq_true (by first | (with_reducible assumption) | assumption)
                              have q156 : x10_2 < (l0.length : Int) := of_decide_eq_true (by first | (with_reducible assumption) | assumption)
                              obtain ⟨ad156, e156, hx156_0, hx156_1, hx156_2, hx156_3⟩ := at_T29 HR0.out x10_2 p156 q156
                              (try rw [← Nbq33.out] at hx156_3)
                              obtain rfl : ad154 = ad156 := (by injection e156)
                              replace hx156_0 := (HB.out.cell (World.block_lt_of_cell? w _ hx156_0)).trans hx156_0
                              replace hx156_1 := (HB.out.cell (World.block_lt_of_cell? w _ hx156_1)).trans hx156_1
                              replace hx156_2 := (HB.out.cell (World.block_lt_of_cell? w _ hx156_2)).trans hx156_2
                              replace hx156_3 := (HB.out.cell (World.block_lt_of_cell? w _ hx156_3)).trans hx156_3
                              replace p156 := eq_true p156
                              replace q156 := eq_true q156
                              have p158 : 0 ≤ (x10_2 : Int) := of_decide_eq_true (by first | (with_reducible assumption) | assumption)
                              have q158 : x10_2 < (l0.length : Int) := of_decide_eq_true (by first | (with_reducible assumption) | assumption)
                              obtain ⟨ad158, e158, hx158_0, hx158_1, hx158_2, hx158_3⟩ := at_T29 HR0.out x10_2 p158 q158
                              (try rw [← Nbq33.out] at hx158_3)
                              obtain rfl : ad154 = ad158 := (by injection e158)
                              replace hx158_0 := (HB.out.cell (World.block_lt_of_cell? w _ hx158_0)).trans hx158_0
                              replace hx158_1 := (HB.out.cell (World.block_lt_of_cell? w _ hx158_1)).trans hx158_1
                              replace hx158_2 := (HB.out.cell (World.block_lt_of_cell? w _ hx158_2)).trans hx158_2
                              replace hx158_3 := (HB.out.cell (World.block_lt_of_cell? w _ hx158_3)).trans hx158_3
                              replace p158 := eq_true p158
                              replace q158 := eq_true q158
                              go_wp2_with (first | ((with_reducible refine gate_callee (f := 22) rfl ?_); refine goesL_ (some 70) rfl rfl Try.func22 (by kernel_rfl) rfl #[.slice (some ad154) l0.length c0, .int .i64 (wrap64 (1 + (wrap64 (Int.tmod a1 9)))), .int .i64 x10_2] rfl (by (try simp only [List.map_toArray, List.map_cons, List.map_nil]); first | done | rfl | (simp only [List.length_drop, List.length_take]; rfl)) ?_; (with_reducible refine (gate_May.calls k2 _ _ l0 (wrap64 (1 + (wrap64 (Int.tmod a1 9)))) x10_2 t159 _ ?side1 ?side2 A53.out).mono ?_); (case side1 => repeat (first | exact (Kd.C_below HR0.out HB.out) | (with_reducible refine Kd.C_alloc ?_ _) | (with_reducible refine Kd.C_drewN ?_ _) | (with_reducible refine Kd.C_drew ?_))); (case side2 => exact HC0.out); rintro e w80 ⟨rfl, hb⟩; refine ⟨_, rfl, ?_⟩; have n0_ := Aside0.mk (below_step (by repeat (first | (with_reducible first | exact HB.out | apply below_alloc | apply pw_below_drewN | apply below_drew1) | exact HB.out)) hb); clear HB; have HB := n0_; clear n0_; (try clear hb); (try clear hb2); (try clear hk); (try clear hi)))
                              go_ret
                              exact ⟨by first | rfl | (simp [errW_none, errW_some] <;> rfl) | (simp [*, errW_none, errW_some] <;> rfl), by repeat (first | (with_reducible first | exact HB.out | apply below_alloc | apply pw_below_drewN | apply below_drew1) | exact HB.out)⟩
                            · rw [if_neg c79] at H
                              have c79b0 : (t159 != false) = false := by simpa using c79
                              (try (have c79b1 : decide (t159 = false) = true := by simpa using c79))
                              (try (have c79b2 : (t159 == false) = true := by simpa using c79))
                              clear c79
                              have H' := Aside0.mk H
                              clear H
                              have p154 : 0 ≤ (x10_2 : Int) := of_decide_eq_true (by first | (with_reducible assumption) | assumption)
                              have q154 : x10_2 < (l0.length : Int) := of_decide_eq_true (by first | (with_reducible assumption) | assumption)
                              obtain ⟨ad154, e154, hx154_0, hx154_1, hx154_2, hx154_3⟩ := at_T29 HR0.out x10_2 p154 q154
                              (try rw [← Nbq33.out] at hx154_3)
                              cases e154
                              replace hx154_0 := (HB.out.cell (World.block_lt_of_cell? w _ hx154_0)).trans hx154_0
                              replace hx154_1 := (HB.out.cell (World.block_lt_of_cell? w _ hx154_1)).trans hx154_1
                              replace hx154_2 := (HB.out.cell (World.block_lt_of_cell? w _ hx154_2)).trans hx154_2
                              replace hx154_3 := (HB.out.cell (World.block_lt_of_cell? w _ hx154_3)).trans hx154_3
                              replace p154 := eq_true p154
                              replace q154 := eq_true q154
                              have p156 : 0 ≤ (x10_2 : Int) := of_decide_eq_true (by first | (with_reducible assumption) | assumption)
                              have q156 : x10_2 < (l0.length : Int) := of_decide_eq_true (by first | (with_reducible assumption) | assumption)
                              obtain ⟨ad156, e156, hx156_0, hx156_1, hx156_2, hx156_3⟩ := at_T29 HR0.out x10_2 p156 q156
                              (try rw [← Nbq33.out] at hx156_3)
                              obtain rfl : ad154 = ad156 := (by injection e156)
                              replace hx156_0 := (HB.out.cell (World.block_lt_of_cell? w _ hx156_0)).trans hx156_0
                              replace hx156_1 := (HB.out.cell (World.block_lt_of_cell? w _ hx156_1)).trans hx156_1
                              replace hx156_2 := (HB.out.cell (World.block_lt_of_cell? w _ hx156_2)).trans hx156_2
                              replace hx156_3 := (HB.out.cell (World.block_lt_of_cell? w _ hx156_3)).trans hx156_3
                              replace p156 := eq_true p156
                              replace q156 := eq_true q156
                              have p158 : 0 ≤ (x10_2 : Int) := of_decide_eq_true (by first | (with_reducible assumption) | assumption)
                              have q158 : x10_2 < (l0.length : Int) := of_decide_eq_true (by first | (with_reducible assumption) | assumption)
                              obtain ⟨ad158, e158, hx158_0, hx158_1, hx158_2, hx158_3⟩ := at_T29 HR0.out x10_2 p158 q158
                              (try rw [← Nbq33.out] at hx158_3)
                              obtain rfl : ad154 = ad158 := (by injection e158)
                              replace hx158_0 := (HB.out.cell (World.block_lt_of_cell? w _ hx158_0)).trans hx158_0
                              replace hx158_1 := (HB.out.cell (World.block_lt_of_cell? w _ hx158_1)).trans hx158_1
                              replace hx158_2 := (HB.out.cell (World.block_lt_of_cell? w _ hx158_2)).trans hx158_2
                              replace hx158_3 := (HB.out.cell (World.block_lt_of_cell? w _ hx158_3)).trans hx158_3
                              replace p158 := eq_true p158
                              replace q158 := eq_true q158
                              go_wp2_with (first | ((with_reducible refine gate_callee (f := 22) rfl ?_); refine goesL_ (some 70) rfl rfl Try.func22 (by kernel_rfl) rfl #[.slice (some ad154) l0.length c0, .int .i64 (wrap64 (1 + (wrap64 (Int.tmod a1 9)))), .int .i64 x10_2] rfl (by (try simp only [List.map_toArray, List.map_cons, List.map_nil]); first | done | rfl | (simp only [List.length_drop, List.length_take]; rfl)) ?_; (with_reducible refine (gate_May.calls k2 _ _ l0 (wrap64 (1 + (wrap64 (Int.tmod a1 9)))) x10_2 t159 _ ?side1 ?side2 A53.out).mono ?_); (case side1 => repeat (first | exact (Kd.C_below HR0.out HB.out) | (with_reducible refine Kd.C_alloc ?_ _) | (with_reducible refine Kd.C_drewN ?_ _) | (with_reducible refine Kd.C_drew ?_))); (case side2 => exact HC0.out); rintro e w81 ⟨rfl, hb⟩; refine ⟨_, rfl, ?_⟩; have n0_ := Aside0.mk (below_step (by repeat (first | (with_reducible first | exact HB.out | apply below_alloc | apply pw_below_drewN | apply below_drew1) | exact HB.out)) hb); clear HB; have HB := n0_; clear n0_; (try clear hb); (try clear hb2); (try clear hk); (try clear hi)))
                              go_roundg k2
                              case measure => have := HK1.out; have := HK2.out; omega
                              case rel => exact ⟨(wrap64 (x10_2 + 1)), (by first | rfl | (simp; done) | (simp [*]; done)), H', ⟨by have := HK1.out; have := HK2.out; omega⟩, ⟨by repeat (first | (with_reducible first | exact HB.out | apply below_alloc | apply pw_below_drewN | apply below_drew1) | exact HB.out)⟩⟩
                        · rw [if_neg c70] at H
                          have c70b0 : decide (0 ≤ t152) = false := decide_eq_false c70
                          clear c70
                          have H' := Aside0.mk H
                          clear H
                          have p154 : 0 ≤ (x10_2 : Int) := of_decide_eq_true (by first | (with_reducible assumption) | assumption)
                          have q154 : x10_2 < (l0.length : Int) := of_decide_eq_true (by first | (with_reducible assumption) | assumption)
                          obtain ⟨ad154, e154, hx154_0, hx154_1, hx154_2, hx154_3⟩ := at_T29 HR0.out x10_2 p154 q154
                          (try rw [← Nbq33.out] at hx154_3)
                          cases e154
                          replace hx154_0 := (HB.out.cell (World.block_lt_of_cell? w _ hx154_0)).trans hx154_0
                          replace hx154_1 := (HB.out.cell (World.block_lt_of_cell? w _ hx154_1)).trans hx154_1
                          replace hx154_2 := (HB.out.cell (World.block_lt_of_cell? w _ hx154_2)).trans hx154_2
                          replace hx154_3 := (HB.out.cell (World.block_lt_of_cell? w _ hx154_3)).trans hx154_3
                          replace p154 := eq_true p154
                          replace q154 := eq_true q154
                          have p156 : 0 ≤ (x10_2 : Int) := of_decide_eq_true (by first | (with_reducible assumption) | assumption)
                          have q156 : x10_2 < (l0.length : Int) := of_decide_eq_true (by first | (with_reducible assumption) | assumption)
                          obtain ⟨ad156, e156, hx156_0, hx156_1, hx156_2, hx156_3⟩ := at_T29 HR0.out x10_2 p156 q156
                          (try rw [← Nbq33.out] at hx156_3)
                          obtain rfl : ad154 = ad156 := (by injection e156)
                          replace hx156_0 := (HB.out.cell (World.block_lt_of_cell? w _ hx156_0)).trans hx156_0
                          replace hx156_1 := (HB.out.cell (World.block_lt_of_cell? w _ hx156_1)).trans hx156_1
                          replace hx156_2 := (HB.out.cell (World.block_lt_of_cell? w _ hx156_2)).trans hx156_2
                          replace hx156_3 := (HB.out.cell (World.block_lt_of_cell? w _ hx156_3)).trans hx156_3
                          replace p156 := eq_true p156
                          replace q156 := eq_true q156
                          have p158 : 0 ≤ (x10_2 : Int) := of_decide_eq_true (by first | (with_reducible assumption) | assumption)
                          have q158 : x10_2 < (l0.length : Int) := of_decide_eq_true (by first | (with_reducible assumption) | assumption)
                          obtain ⟨ad158, e158, hx158_0, hx158_1, hx158_2, hx158_3⟩ := at_T29 HR0.out x10_2 p158 q158
                          (try rw [← Nbq33.out] at hx158_3)
                          obtain rfl : ad154 = ad158 := (by injection e158)
                          replace hx158_0 := (HB.out.cell (World.block_lt_of_cell? w _ hx158_0)).trans hx158_0
                          replace hx158_1 := (HB.out.cell (World.block_lt_of_cell? w _ hx158_1)).trans hx158_1
                          replace hx158_2 := (HB.out.cell (World.block_lt_of_cell? w _ hx158_2)).trans hx158_2
                          replace hx158_3 := (HB.out.cell (World.block_lt_of_cell? w _ hx158_3)).trans hx158_3
                          replace p158 := eq_true p158
                          replace q158 := eq_true q158
                          go_wp2_with (first | ((with_reducible refine gate_callee (f := 22) rfl ?_); refine goesL_ (some 70) rfl rfl Try.func22 (by kernel_rfl) rfl #[.slice (some ad154) l0.length c0, .int .i64 (wrap64 (1 + (wrap64 (Int.tmod a1 9)))), .int .i64 x10_2] rfl (by (try simp only [List.map_toArray, List.map_cons, List.map_nil]); first | done | rfl | (simp only [List.length_drop, List.length_take]; rfl)) ?_; (with_reducible refine (gate_May.calls k2 _ _ l0 (wrap64 (1 + (wrap64 (Int.tmod a1 9)))) x10_2 t159 _ ?side1 ?side2 A53.out).mono ?_); (case side1 => repeat (first | exact (Kd.C_below HR0.out HB.out) | (with_reducible refine Kd.C_alloc ?_ _) | (with_reducible refine Kd.C_drewN ?_ _) | (with_reducible refine Kd.C_drew ?_))); (case side2 => exact HC0.out); rintro e w82 ⟨rfl, hb⟩; refine ⟨_, rfl, ?_⟩; have n0_ := Aside0.mk (below_step (by repeat (first | (with_reducible first | exact HB.out | apply below_alloc | apply pw_below_drewN | apply below_drew1) | exact HB.out)) hb); clear HB; have HB := n0_; clear n0_; (try clear hb); (try clear hb2); (try clear hk); (try clear hi)))
                          go_roundg k2
                          case measure => have := HK1.out; have := HK2.out; omega
                          case rel => exact ⟨(wrap64 (x10_2 + 1)), (by first | rfl | (simp; done) | (simp [*]; done)), H', ⟨by have := HK1.out; have := HK2.out; omega⟩, ⟨by repeat (first | (with_reducible first | exact HB.out | apply below_alloc | apply pw_below_drewN | apply below_drew1) | exact HB.out)⟩⟩
                · rw [if_neg c13] at H
                  exact absurd H (by simp)
              · rw [if_neg c12] at H
                have c12b0 : decide (x10_2 < (l0.length : Int)) = false := decide_eq_false c12
                clear c12
                by_cases c83 : t151 = true
                · subst c83
                  have H1 : ((gate_May.f k2 l0 (wrap64 (1 + (wrap64 (Int.tmod a1 9)))) (-1)).bind fun t160 => (if t160 = true then (some false) else ((gate_May.f k2 l0 (wrap64 (1 + (wrap64 (Int.tmod a1 9)))) (l0.length : Int)).bind fun t161 => (some (!t161))))) = some r := by rw [if_pos rfl] at H; exact H
                  clear H
                  have H := H1
                  clear H1
                  replace H := Option.bind_eq_some_iff.mp H
                  obtain ⟨t160, A840, H⟩ := H
                  replace H : (if t160 = true then (some false) else ((gate_May.f k2 l0 (wrap64 (1 + (wrap64 (Int.tmod a1 9)))) (l0.length : Int)).bind fun t161 => (some (!t161)))) = some r := H
                  have A84 := Aside0.mk A840
                  clear A840
                  by_cases c85 : t160 = true
                  · subst c85
                    have H1 : (some false) = some r := by rw [if_pos rfl] at H; exact H
                    clear H
                    have H := H1
                    clear H1
                    obtain rfl := Option.some.inj H
                    go_wp2_with (first | (go_at_call 22; (with_reducible refine (gate_May.calls k2 _ _ l0 (wrap64 (1 + (wrap64 (Int.tmod a1 9)))) (-1) true _ ?side1 ?side2 A84.out).mono ?_); (case side1 => repeat (first | exact (Kd.C_below HR0.out HB.out) | (with_reducible refine Kd.C_alloc ?_ _) | (with_reducible refine Kd.C_drewN ?_ _) | (with_reducible refine Kd.C_drew ?_))); (case side2 => exact HC0.out); rintro e w86 ⟨rfl, hb⟩; have n0_ := Aside0.mk (below_step (by repeat (first | (with_reducible first | exact HB.out | apply below_alloc | apply pw_below_drewN | apply below_drew1) | exact HB.out)) hb); clear HB; have HB := n0_; clear n0_; (try clear hb); (try clear hb2); (try clear hk); (try clear hi)))
                    go_ret
                    exact ⟨by first | rfl | (simp [errW_none, errW_some] <;> rfl) | (simp [*, errW_none, errW_some] <;> rfl), by repeat (first | (with_reducible first | exact HB.out | apply below_alloc | apply pw_below_drewN | apply below_drew1) | exact HB.out)⟩
                  · replace c85 := Bool.eq_false_iff.mpr c85
                    subst c85
                    have H1 : ((gate_May.f k2 l0 (wrap64 (1 + (wrap64 (Int.tmod a1 9)))) (l0.length : Int)).bind fun t161 => (some (!t161))) = some r := by rw [if_neg (show ¬ (false = true) by decide)] at H; exact H
                    clear H
                    have H := H1
                    clear H1
                    replace H := Option.bind_eq_some_iff.mp H
                    obtain ⟨t161, A870, H⟩ := H
                    replace H : (some (!t161)) = some r := H
                    have A87 := Aside0.mk A870
                    clear A870
                    obtain rfl := Option.some.inj H
                    go_wp2_with (first | (go_at_call 22; (with_reducible refine (gate_May.calls k2 _ _ l0 (wrap64 (1 + (wrap64 (Int.tmod a1 9)))) (-1) false _ ?side1 ?side2 A84.out).mono ?_); (case side1 => repeat (first | exact (Kd.C_below HR0.out HB.out) | (with_reducible refine Kd.C_alloc ?_ _) | (with_reducible refine Kd.C_drewN ?_ _) | (with_reducible refine Kd.C_drew ?_))); (case side2 => exact HC0.out); rintro e w88 ⟨rfl, hb⟩; have n0_ := Aside0.mk (below_step (by repeat (first | (with_reducible first | exact HB.out | apply below_alloc | apply pw_below_drewN | apply below_drew1) | exact HB.out)) hb); clear HB; have HB := n0_; clear n0_; (try clear hb); (try clear hb2); (try clear hk); (try clear hi)) | (go_at_call 22; (with_reducible refine (gate_May.calls k2 _ _ l0 (wrap64 (1 + (wrap64 (Int.tmod a1 9)))) (l0.length : Int) t161 _ ?side1 ?side2 A87.out).mono ?_); (case side1 => repeat (first | exact (Kd.C_below HR0.out HB.out) | (with_reducible refine Kd.C_alloc ?_ _) | (with_reducible refine Kd.C_drewN ?_ _) | (with_reducible refine Kd.C_drew ?_))); (case side2 => exact HC0.out); rintro e w89 ⟨rfl, hb⟩; have n0_ := Aside0.mk (below_step (by repeat (first | (with_reducible first | exact HB.out | apply below_alloc | apply pw_below_drewN | apply below_drew1) | exact HB.out)) hb); clear HB; have HB := n0_; clear n0_; (try clear hb); (try clear hb2); (try clear hk); (try clear hi)))
                    go_ret
                    exact ⟨by first | rfl | (simp [errW_none, errW_some] <;> rfl) | (simp [*, errW_none, errW_some] <;> rfl), by repeat (first | (with_reducible first | exact HB.out | apply below_alloc | apply pw_below_drewN | apply below_drew1) | exact HB.out)⟩
                · replace c83 := Bool.eq_false_iff.mpr c83
                  subst c83
                  have H1 : (some false) = some r := by rw [if_neg (show ¬ (false = true) by decide)] at H; exact H
                  clear H
                  have H := H1
                  clear H1
                  obtain rfl := Option.some.inj H
                  go_wp2
                  go_ret
                  exact ⟨by first | rfl | (simp [errW_none, errW_some] <;> rfl) | (simp [*, errW_none, errW_some] <;> rfl), by repeat (first | (with_reducible first | exact HB.out | apply below_alloc | apply pw_below_drewN | apply below_drew1) | exact HB.out)⟩

end Go.Proofs.Ytjomfmhgiecafaa.P
