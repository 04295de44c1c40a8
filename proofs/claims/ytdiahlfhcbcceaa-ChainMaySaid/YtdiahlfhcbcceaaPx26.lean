-- Written for this claim by a program of this seat's (wip/tools), by way of the kit's printing program; not one of its printed files. Lean checks it.
import Derived.Test.YtdiahlfhcbcceaaPx0
import Derived.Test.YtdiahlfhcbcceaaPx3
import Derived.Test.YtdiahlfhcbcceaaPx9
import Derived.Test.YtdiahlfhcbcceaaPx10
import Derived.Test.YtdiahlfhcbcceaaPx25
namespace Go.Proofs.Ytdiahlfhcbcceaa.P
open Go.RowKit Go.Proofs.YtdiahlfhcbcceaaW.PrintWords Go.Proofs.YtdiahlfhcbcceaaW.PrintLast Go.Proofs.YtdiahlfhcbcceaaW.PrintMore
attribute [local go_sem] max2_int min2_int max_two min_two max_three min_three max_four min_four   -- for this text's walks alone
set_option linter.unusedVariables false
set_option linter.unusedSimpArgs false

/-! ### ogivelaw10_ChainMay: function 4 -/
mutual
def ogivelaw10_ChainMay.l0 : Nat → List (S51) → Bool → List (S27) → Int → Option (Bool)
  | 0, _, _, _, _ => none
  | k + 1, x0, x3, x4, x5 => if x5 < (x0.length : Int) then (ogivelaw10_ChainMay.j1 k x0 x3 x4 x5 (decide (x5 < 60))) else (ogivelaw10_ChainMay.j1 k x0 x3 x4 x5 false)
def ogivelaw10_ChainMay.j1 : Nat → List (S51) → Bool → List (S27) → Int → Bool → Option (Bool)
  | 0, _, _, _, _, _ => none
  | k + 1, x0, x3, x4, x5, x15 => if x15 = true then (if 0 ≤ x5 then (if x5 < (x0.length : Int) then ((ogivelaw10_do.f k x4 ((rd_T51 x0 x5).f0) ((rd_T51 x0 x5).f1) ((rd_T51 x0 x5).f2)).bind fun t312 => ((chain_May.f k t312).bind fun t315 => (if t315 = true then (if 0 < (t312.length : Int) then (if ((rd_T27 t312 0).f3 = true) then (if ((rd_T27 t312 0).f0) = 0 then (ogivelaw10_ChainMay.l0 k x0 x3 t312 (wrap64 (x5 + 1))) else (some false)) else (some false)) else (none)) else (some false)))) else (none)) else (none)) else (some x3)
end
def ogivelaw10_ChainMay.f (k : Nat) (l0 : List (S51)) : Option (Bool) := (ogivelaw10_awake.f k).bind fun t307 => ((chain_Fresh.f).bind fun t308 => (ogivelaw10_ChainMay.l0 k l0 t307 t308 0))
theorem ogivelaw10_ChainMay.mono_l : ∀ k, (∀ y0 y1 y2 y3, LeO (ogivelaw10_ChainMay.l0 k y0 y1 y2 y3) (ogivelaw10_ChainMay.l0 (k + 1) y0 y1 y2 y3)) ∧ (∀ y0 y1 y2 y3 y4, LeO (ogivelaw10_ChainMay.j1 k y0 y1 y2 y3 y4) (ogivelaw10_ChainMay.j1 (k + 1) y0 y1 y2 y3 y4))
  | 0 => ⟨fun _ _ _ _ r h => by simp [ogivelaw10_ChainMay.l0] at h, fun _ _ _ _ _ r h => by simp [ogivelaw10_ChainMay.j1] at h⟩
  | k + 1 => by
    obtain ⟨ih0, ih1⟩ := ogivelaw10_ChainMay.mono_l k
    refine ⟨?_, ?_⟩
    · intro y0 y1 y2 y3
      unfold ogivelaw10_ChainMay.l0
      repeat' first
      | (with_reducible exact ih0 _ _ _ _)
      | (with_reducible exact ih1 _ _ _ _ _)
      | (with_reducible exact chain_May.mono _ _)
      | (with_reducible exact ogivelaw10_awake.mono _)
      | (with_reducible exact ogivelaw10_do.mono _ _ _ _ _)
      | (with_reducible exact LeO.refl _)
      | (with_reducible exact LeO.none _)
      | (with_reducible refine LeO.ite ?_ ?_)
      | (with_reducible refine LeO.bind ?_ (fun _ => ?_))
      | exact ih0 _ _ _ _
      | exact ih1 _ _ _ _ _
      | exact chain_May.mono _ _
      | exact ogivelaw10_awake.mono _
      | exact ogivelaw10_do.mono _ _ _ _ _
      | exact LeO.none _
      | refine LeO.ite ?_ ?_
      | refine LeO.bind ?_ (fun _ => ?_)
    · intro y0 y1 y2 y3 y4
      unfold ogivelaw10_ChainMay.j1
      repeat' first
      | (with_reducible exact ih0 _ _ _ _)
      | (with_reducible exact ih1 _ _ _ _ _)
      | (with_reducible exact chain_May.mono _ _)
      | (with_reducible exact ogivelaw10_awake.mono _)
      | (with_reducible exact ogivelaw10_do.mono _ _ _ _ _)
      | (with_reducible exact LeO.refl _)
      | (with_reducible exact LeO.none _)
      | (with_reducible refine LeO.ite ?_ ?_)
      | (with_reducible refine LeO.bind ?_ (fun _ => ?_))
      | exact ih0 _ _ _ _
      | exact ih1 _ _ _ _ _
      | exact chain_May.mono _ _
      | exact ogivelaw10_awake.mono _
      | exact ogivelaw10_do.mono _ _ _ _ _
      | exact LeO.none _
      | refine LeO.ite ?_ ?_
      | refine LeO.bind ?_ (fun _ => ?_)
theorem ogivelaw10_ChainMay.mono : ∀ a0 k, LeO (ogivelaw10_ChainMay.f k a0) (ogivelaw10_ChainMay.f (k + 1) a0) := by
  intro a0 k
  obtain ⟨ih0, ih1⟩ := ogivelaw10_ChainMay.mono_l k
  unfold ogivelaw10_ChainMay.f
  repeat' first
      | (with_reducible exact ih0 _ _ _ _)
      | (with_reducible exact ih1 _ _ _ _ _)
      | (with_reducible exact chain_May.mono _ _)
      | (with_reducible exact ogivelaw10_awake.mono _)
      | (with_reducible exact ogivelaw10_do.mono _ _ _ _ _)
      | (with_reducible exact LeO.refl _)
      | (with_reducible exact LeO.none _)
      | (with_reducible refine LeO.ite ?_ ?_)
      | (with_reducible refine LeO.bind ?_ (fun _ => ?_))
      | exact ih0 _ _ _ _
      | exact ih1 _ _ _ _ _
      | exact chain_May.mono _ _
      | exact ogivelaw10_awake.mono _
      | exact ogivelaw10_do.mono _ _ _ _ _
      | exact LeO.none _
      | refine LeO.ite ?_ ?_
      | refine LeO.bind ?_ (fun _ => ?_)
set_option maxHeartbeats 8000000 in
set_option maxRecDepth 100000 in
theorem ogivelaw10_ChainMay.calls (k : Nat) (A0 : Option Addr) (c0 : Nat) (l0 : List (S51)) (r : Bool) (w : World) (hr0 : Kd.C k51 w A0 l0.length l0) (hc0 : l0.length ≤ c0) (h : ogivelaw10_ChainMay.f k l0 = some r) :
    Calls Try.prog 4 #[.slice A0 l0.length c0] w fun e w' => e = .returned (.bool r) ∧ Below w.heap.size w w' := by
  have hu51 := Try.underlying51
  have HR0 := Aside0.mk hr0
  have HC0 := Aside0.mk hc0
  clear hr0 hc0
  have HB := Aside0.mk (Below.refl w.heap.size w)
  have H : ((ogivelaw10_awake.f k).bind fun t307 => ((chain_Fresh.f).bind fun t308 => (ogivelaw10_ChainMay.l0 k l0 t307 t308 0))) = some r := h
  clear h
  replace H := Option.bind_eq_some_iff.mp H
  obtain ⟨t307, A20, H⟩ := H
  replace H : ((chain_Fresh.f).bind fun t308 => (ogivelaw10_ChainMay.l0 k l0 t307 t308 0)) = some r := H
  have A2 := Aside0.mk A20
  clear A20
  replace H := Option.bind_eq_some_iff.mp H
  obtain ⟨t308, A30, H⟩ := H
  replace H : (ogivelaw10_ChainMay.l0 k l0 t307 t308 0) = some r := H
  have A3 := Aside0.mk A30
  clear A30
  have H' := Aside0.mk H
  clear H
  go_enter Try.func4, Try.ntmps4
  go_wp2_with (first | ((with_reducible refine gate_callee (f := 9) rfl ?_); refine goesL_ (some 6) rfl rfl Try.func9 (by kernel_rfl) rfl #[] rfl (by (try simp only [List.map_toArray, List.map_cons, List.map_nil]); first | done | rfl | (simp only [List.length_drop, List.length_take]; rfl)) ?_; (with_reducible refine (ogivelaw10_awake.calls k  t307 _ A2.out).mono ?_); rintro e w4 ⟨rfl, hb⟩; refine ⟨_, rfl, ?_⟩; have n0_ := Aside0.mk (below_step (by repeat (first | (with_reducible first | exact HB.out | apply below_alloc | apply pw_below_drewN | apply below_drew1) | exact HB.out)) hb); clear HB; have HB := n0_; clear n0_; (try clear hb); (try clear hb2); (try clear hk); (try clear hi)) | ((with_reducible refine gate_callee (f := 25) rfl ?_); refine goesL_ (some 7) rfl rfl Try.func25 (by kernel_rfl) rfl #[] rfl (by (try simp only [List.map_toArray, List.map_cons, List.map_nil]); first | done | rfl | (simp only [List.length_drop, List.length_take]; rfl)) ?_; (with_reducible refine (chain_Fresh.calls  t308 _ A3.out).mono ?_); rintro e w5 ⟨v309, rfl, ho0, hb⟩; refine ⟨_, rfl, ?_⟩; have n0_ := Aside0.mk (Kd.R_lower ho0 (below_size (by repeat (first | (with_reducible first | exact HB.out | apply below_alloc | apply pw_below_drewN | apply below_drew1) | exact HB.out)))); have n1_ := Aside0.mk (below_step (by repeat (first | (with_reducible first | exact HB.out | apply below_alloc | apply pw_below_drewN | apply below_drew1) | exact HB.out)) hb); clear HB; have HO310 := n0_; have HB := n1_; clear n0_ n1_; (try clear hb); (try clear hb2); (try clear hk); (try clear hi); (try clear ho0)))
  go_loopg [4, 5] k (fun kq v4 v5 w' => ∃ (x4_1 : List (S27)) (x5_1 : Int), v5 = .int .i64 x5_1 ∧ Aside0 (ogivelaw10_ChainMay.l0 kq l0 t307 x4_1 x5_1 = some r) ∧ Aside0 (kq ≤ k) ∧ Aside0 (Kd.V k27 27 w' w.heap.size (fun _ => True) v4 x4_1) ∧ Aside0 (Below w.heap.size w w'))
  case atStart => exact ⟨(t308), (0), (by first | rfl | (simp; done) | (simp [*]; done)), H', ⟨Nat.le_refl _⟩, ⟨Kd.R_V (by (with_reducible repeat (first | apply Kd.R_alloc | apply Kd.R_drewN | apply Kd.R_drew)); exact HO310.out)⟩, ⟨by repeat (first | (with_reducible first | exact HB.out | apply below_alloc | apply pw_below_drewN | apply below_drew1) | exact HB.out)⟩⟩
  case round =>
    clear H'
    try clear c2
    try clear p2
    try clear c4
    obtain ⟨x4_1, x5_1, rfl, HA, HK1, HO_4, HB⟩ := hrel
    cases gk with
    | zero => exact absurd HA.out (by simp [ogivelaw10_ChainMay.l0])
    | succ k1 =>
      have H := HA.out
      clear HA
      simp only [ogivelaw10_ChainMay.l0] at H
      have HC6 := Aside0.mk H
      clear H
      go_upto_region 4 with (fail)
      go_cut [15] (fun v15 wc => ∃ (kq : Nat) (x15_5 : Bool), v15 = .bool x15_5 ∧ Aside0 (ogivelaw10_ChainMay.j1 kq l0 t307 x4_1 x5_1 x15_5 = some r) ∧ Aside0 (kq ≤ k1) ∧ Aside0 (Kd.V k27 27 wc w.heap.size (fun _ => True) u4 x4_1) ∧ Aside0 (Below w.heap.size w wc))
      case first =>
        have H := HC6.out
        clear HC6
        by_cases c7 : x5_1 < (l0.length : Int)
        · rw [if_pos c7] at H
          have c7b0 : decide (x5_1 < (l0.length : Int)) = true := decide_eq_true c7
          clear c7
          (first | rw [c7b0] | (simp only [i64_w, i32_w]; rw [c7b0]) | skip)
          have H' := Aside0.mk H
          clear H
          go_wp2
          go_meet
          case rel => exact ⟨_, (decide (x5_1 < 60)), (by first | rfl | (simp; done) | (simp [*]; done)), H', ⟨by have := HK1.out; first | omega | exact Nat.le_refl _⟩, ⟨by (with_reducible repeat (first | apply Kd.V_alloc | apply Kd.V_drewN | apply Kd.V_drew)); exact HO_4.out⟩, ⟨by repeat (first | (with_reducible first | exact HB.out | apply below_alloc | apply pw_below_drewN | apply below_drew1) | exact HB.out)⟩⟩
        · rw [if_neg c7] at H
          have c7b0 : decide (x5_1 < (l0.length : Int)) = false := decide_eq_false c7
          clear c7
          (first | rw [c7b0] | (simp only [i64_w, i32_w]; rw [c7b0]) | skip)
          have H' := Aside0.mk H
          clear H
          go_wp2
          go_meet
          case rel => exact ⟨_, (false), (by first | rfl | (simp; done) | (simp [*]; done)), H', ⟨by have := HK1.out; first | omega | exact Nat.le_refl _⟩, ⟨by (with_reducible repeat (first | apply Kd.V_alloc | apply Kd.V_drewN | apply Kd.V_drew)); exact HO_4.out⟩, ⟨by repeat (first | (with_reducible first | exact HB.out | apply below_alloc | apply pw_below_drewN | apply below_drew1) | exact HB.out)⟩⟩
      case rest =>
        clear HC6
        try clear c2
        try clear p2
        try clear c4
        try clear c7
        try clear c7b0
        try clear p2
        obtain ⟨kq, x15_5, rfl, HA, HJ5, HO_4, HB⟩ := hcut
        cases kq with
        | zero => exact absurd HA.out (by simp [ogivelaw10_ChainMay.j1])
        | succ kj5 =>
          have H := HA.out
          clear HA
          simp only [ogivelaw10_ChainMay.j1] at H
          by_cases c8 : x15_5 = true
          · subst c8
            have H1 : (if 0 ≤ x5_1 then (if x5_1 < (l0.length : Int) then ((ogivelaw10_do.f kj5 x4_1 ((rd_T51 l0 x5_1).f0) ((rd_T51 l0 x5_1).f1) ((rd_T51 l0 x5_1).f2)).bind fun t312 => ((chain_May.f kj5 t312).bind fun t315 => (if t315 = true then (if 0 < (t312.length : Int) then (if ((rd_T27 t312 0).f3 = true) then (if ((rd_T27 t312 0).f0) = 0 then (ogivelaw10_ChainMay.l0 kj5 l0 t307 t312 (wrap64 (x5_1 + 1))) else (some false)) else (some false)) else (none)) else (some false)))) else (none)) else (none)) = some r := by rw [if_pos rfl] at H; exact H
            clear H
            have H := H1
            clear H1
            by_cases c9 : 0 ≤ x5_1
            · rw [if_pos c9] at H
              have c9b0 : decide (0 ≤ x5_1) = true := decide_eq_true c9
              clear c9
              by_cases c10 : x5_1 < (l0.length : Int)
              · rw [if_pos c10] at H
                have c10b0 : decide (x5_1 < (l0.length : Int)) = true := decide_eq_true c10
                clear c10
                replace H := Option.bind_eq_some_iff.mp H
                obtain ⟨t312, A110, H⟩ := H
                replace H : ((chain_May.f kj5 t312).bind fun t315 => (if t315 = true then (if 0 < (t312.length : Int) then (if ((rd_T27 t312 0).f3 = true) then (if ((rd_T27 t312 0).f0) = 0 then (ogivelaw10_ChainMay.l0 kj5 l0 t307 t312 (wrap64 (x5_1 + 1))) else (some false)) else (some false)) else (none)) else (some false))) = some r := H
                have A11 := Aside0.mk A110
                clear A110
                replace H := Option.bind_eq_some_iff.mp H
                obtain ⟨t315, A120, H⟩ := H
                replace H : (if t315 = true then (if 0 < (t312.length : Int) then (if ((rd_T27 t312 0).f3 = true) then (if ((rd_T27 t312 0).f0) = 0 then (ogivelaw10_ChainMay.l0 kj5 l0 t307 t312 (wrap64 (x5_1 + 1))) else (some false)) else (some false)) else (none)) else (some false)) = some r := H
                have A12 := Aside0.mk A120
                clear A120
                by_cases c13 : t315 = true
                · subst c13
                  have H1 : (if 0 < (t312.length : Int) then (if ((rd_T27 t312 0).f3 = true) then (if ((rd_T27 t312 0).f0) = 0 then (ogivelaw10_ChainMay.l0 kj5 l0 t307 t312 (wrap64 (x5_1 + 1))) else (some false)) else (some false)) else (none)) = some r := by rw [if_pos rfl] at H; exact H
                  clear H
                  have H := H1
                  clear H1
                  by_cases c14 : 0 < (t312.length : Int)
                  · rw [if_pos c14] at H
                    have c14b0 : decide (0 < (t312.length : Int)) = true := decide_eq_true c14
                    have c14b1 : decide (0 < t312.length) = true := decide_eq_true (by omega)
                    clear c14
                    obtain ⟨bq15, hbq15⟩ : ∃ b_ : Bool, b_ = ((rd_T27 t312 0).f3) := ⟨_, rfl⟩
                    replace H : (if (bq15 = true) then (if ((rd_T27 t312 0).f0) = 0 then (ogivelaw10_ChainMay.l0 kj5 l0 t307 t312 (wrap64 (x5_1 + 1))) else (some false)) else (some false)) = some r := by rw [← hbq15] at H; exact H
                    have Nbq15 := Aside0.mk hbq15
                    clear hbq15
                    by_cases c16 : (bq15 = true)
                    · subst c16
                      have H1 : (if ((rd_T27 t312 0).f0) = 0 then (ogivelaw10_ChainMay.l0 kj5 l0 t307 t312 (wrap64 (x5_1 + 1))) else (some false)) = some r := by rw [if_pos rfl] at H; exact H
                      clear H
                      have H := H1
                      clear H1
                      by_cases c17 : ((rd_T27 t312 0).f0) = 0
                      · rw [if_pos c17] at H
                        have c17b0 : (((rd_T27 t312 0).f0) == 0) = true := beq_iff_eq.mpr c17
                        have c17b1 : (((rd_T27 t312 0).f0) != 0) = false := bne_eq_false_iff_eq.mpr c17
                        clear c17
                        have H' := Aside0.mk H
                        clear H
                        have p311 : 0 ≤ (x5_1 : Int) := of_decide_eq_true (by first | (with_reducible assumption) | assumption)
                        have q311 : x5_1 < (l0.length : Int) := of_decide_eq_true (by first | (with_reducible assumption) | assumption)
                        obtain ⟨ad311, e311, hx311_0, hx311_1, hx311_2⟩ := at_T51 HR0.out x5_1 p311 q311
                        cases e311
                        replace hx311_0 := (HB.out.cell (World.block_lt_of_cell? w _ hx311_0)).trans hx311_0
                        replace hx311_1 := (HB.out.cell (World.block_lt_of_cell? w _ hx311_1)).trans hx311_1
                        replace hx311_2 := (HB.out.cell (World.block_lt_of_cell? w _ hx311_2)).trans hx311_2
                        replace p311 := eq_true p311
                        replace q311 := eq_true q311
                        obtain ⟨Ao18, co18, eo18⟩ := Kd.V_slice HO_4.out
                        subst eo18
                        go_wp2_with (first | ((with_reducible refine gate_callee (f := 26) rfl ?_); refine goesL_ (some 23) rfl rfl Try.func26 (by kernel_rfl) rfl #[.slice Ao18 x4_1.length co18, .agg #[.int .i64 ((rd_T51 l0 x5_1).f0), .int .i64 ((rd_T51 l0 x5_1).f1), .string ((rd_T51 l0 x5_1).f2)]] rfl (by (try simp only [List.map_toArray, List.map_cons, List.map_nil]); first | done | rfl | (simp only [List.length_drop, List.length_take]; rfl)) ?_; (with_reducible refine (ogivelaw10_do.calls kj5 (fun k_ => True) _ _ x4_1 ((rd_T51 l0 x5_1).f0) ((rd_T51 l0 x5_1).f1) ((rd_T51 l0 x5_1).f2) t312 _ ?side1 A11.out).mono ?_); (case side1 => exact HO_4.out); rintro e w19 ⟨v313, rfl, ho0, hb⟩; refine ⟨_, rfl, ?_⟩; have n0_ := Aside0.mk (Kd.V_below (by (with_reducible repeat (first | apply Kd.V_alloc | apply Kd.V_drewN | apply Kd.V_drew)); exact HO_4.out) hb); have n1_ := Aside0.mk (Kd.V_lower (Kd.V_mono (ok' := fun k_ => True) ho0 (fun k_ hk_ => trivial)) (below_size (by repeat (first | (with_reducible first | exact HB.out | apply below_alloc | apply pw_below_drewN | apply below_drew1) | exact HB.out)))); have n2_ := Aside0.mk (below_step (by repeat (first | (with_reducible first | exact HB.out | apply below_alloc | apply pw_below_drewN | apply below_drew1) | exact HB.out)) hb); clear HO_4; clear HB; have HO_4 := n0_; have HO314 := n1_; have HB := n2_; clear n0_ n1_ n2_; (try clear hb); (try clear hb2); (try clear hk); (try clear hi); (try clear ho0); obtain ⟨Ao20, co20, eo20⟩ := Kd.V_slice HO314.out; subst eo20) | ((with_reducible refine gate_callee (f := 15) rfl ?_); refine goesL_ (some 25) rfl rfl Try.func15 (by kernel_rfl) rfl #[.slice Ao20 t312.length co20] rfl (by (try simp only [List.map_toArray, List.map_cons, List.map_nil]); first | done | rfl | (simp only [List.length_drop, List.length_take]; rfl)) ?_; (with_reducible refine (chain_May.calls kj5 _ _ t312 true _ ?side1 ?side2 A12.out).mono ?_); (case side1 => repeat (first | exact (Kd.V_reads' HO314.out).2.2 | (with_reducible refine Kd.C_alloc ?_ _) | (with_reducible refine Kd.C_drewN ?_ _) | (with_reducible refine Kd.C_drew ?_))); (case side2 => exact (Kd.V_reads' HO314.out).2.1); rintro e w21 ⟨rfl, hb⟩; refine ⟨_, rfl, ?_⟩; have n0_ := Aside0.mk (Kd.V_below (by (with_reducible repeat (first | apply Kd.V_alloc | apply Kd.V_drewN | apply Kd.V_drew)); exact HO_4.out) hb); have n1_ := Aside0.mk (Kd.V_below (by (with_reducible repeat (first | apply Kd.V_alloc | apply Kd.V_drewN | apply Kd.V_drew)); exact HO314.out) hb); have n2_ := Aside0.mk (below_step (by repeat (first | (with_reducible first | exact HB.out | apply below_alloc | apply pw_below_drewN | apply below_drew1) | exact HB.out)) hb); clear HO_4; clear HO314; clear HB; have HO_4 := n0_; have HO314 := n1_; have HB := n2_; clear n0_ n1_ n2_; (try clear hb); (try clear hb2); (try clear hk); (try clear hi); have p316 : 0 ≤ (0 : Int) := (by omega); have q316 : 0 < (t312.length : Int) := of_decide_eq_true (by first | (with_reducible assumption) | assumption); obtain ⟨ad316, e316, hx316_0, hx316_1, hx316_2, hx316_3⟩ := at_T27 (Kd.V_reads' HO314.out).2.2 0 p316 q316; (try rw [← Nbq15.out] at hx316_3); cases e316; have qi316 : (0 < t312.length) = True := eq_true (by omega); (try rw [show ((0 : Int)).toNat = 0 from rfl] at hx316_0); (try rw [show 0 * 4 = 0 from rfl] at hx316_0); (try rw [Addr.add_zero'] at hx316_0); (try rw [show ((0 : Int)).toNat = 0 from rfl] at hx316_1); (try rw [show 0 * 4 = 0 from rfl] at hx316_1); (try rw [Addr.add_zero'] at hx316_1); (try rw [show ((0 : Int)).toNat = 0 from rfl] at hx316_2); (try rw [show 0 * 4 = 0 from rfl] at hx316_2); (try rw [Addr.add_zero'] at hx316_2); (try rw [show ((0 : Int)).toNat = 0 from rfl] at hx316_3); (try rw [show 0 * 4 = 0 from rfl] at hx316_3); (try rw [Addr.add_zero'] at hx316_3); replace p316 := eq_true p316; replace q316 := eq_true q316; have p317 : 0 ≤ (0 : Int) := (by omega); have q317 : 0 < (t312.length : Int) := of_decide_eq_true (by first | (with_reducible assumption) | assumption); obtain ⟨ad317, e317, hx317_0, hx317_1, hx317_2, hx317_3⟩ := at_T27 (Kd.V_reads' HO314.out).2.2 0 p317 q317; (try rw [← Nbq15.out] at hx317_3); obtain rfl : ad316 = ad317 := (by injection e317); have qi317 : (0 < t312.length) = True := eq_true (by omega); (try rw [show ((0 : Int)).toNat = 0 from rfl] at hx317_0); (try rw [show 0 * 4 = 0 from rfl] at hx317_0); (try rw [Addr.add_zero'] at hx317_0); (try rw [show ((0 : Int)).toNat = 0 from rfl] at hx317_1); (try rw [show 0 * 4 = 0 from rfl] at hx317_1); (try rw [Addr.add_zero'] at hx317_1); (try rw [show ((0 : Int)).toNat = 0 from rfl] at hx317_2); (try rw [show 0 * 4 = 0 from rfl] at hx317_2); (try rw [Addr.add_zero'] at hx317_2); (try rw [show ((0 : Int)).toNat = 0 from rfl] at hx317_3); (try rw [show 0 * 4 = 0 from rfl] at hx317_3); (try rw [Addr.add_zero'] at hx317_3); replace p317 := eq_true p317; replace q317 := eq_true q317))
                        go_roundg kj5
                        case measure => have := HK1.out; have := HJ5.out; omega
                        case rel => exact ⟨(t312), (wrap64 (x5_1 + 1)), (by first | rfl | (simp; done) | (simp [*]; done)), H', ⟨by have := HK1.out; have := HJ5.out; omega⟩, ⟨by (with_reducible repeat (first | apply Kd.V_alloc | apply Kd.V_drewN | apply Kd.V_drew)); exact HO314.out⟩, ⟨by repeat (first | (with_reducible first | exact HB.out | apply below_alloc | apply pw_below_drewN | apply below_drew1) | exact HB.out)⟩⟩
                      · rw [if_neg c17] at H
                        have c17b0 : (((rd_T27 t312 0).f0) == 0) = false := beq_eq_false_iff_ne.mpr c17
                        have c17b1 : (((rd_T27 t312 0).f0) != 0) = true := bne_iff_ne.mpr c17
                        obtain rfl := Option.some.inj H
                        have p311 : 0 ≤ (x5_1 : Int) := of_decide_eq_true (by first | (with_reducible assumption) | assumption)
                        have q311 : x5_1 < (l0.length : Int) := of_decide_eq_true (by first | (with_reducible assumption) | assumption)
                        obtain ⟨ad311, e311, hx311_0, hx311_1, hx311_2⟩ := at_T51 HR0.out x5_1 p311 q311
                        cases e311
                        replace hx311_0 := (HB.out.cell (World.block_lt_of_cell? w _ hx311_0)).trans hx311_0
                        replace hx311_1 := (HB.out.cell (World.block_lt_of_cell? w _ hx311_1)).trans hx311_1
                        replace hx311_2 := (HB.out.cell (World.block_lt_of_cell? w _ hx311_2)).trans hx311_2
                        replace p311 := eq_true p311
                        replace q311 := eq_true q311
                        obtain ⟨Ao22, co22, eo22⟩ := Kd.V_slice HO_4.out
                        subst eo22
                        go_wp2_with (first | ((with_reducible refine gate_callee (f := 26) rfl ?_); refine goesL_ (some 23) rfl rfl Try.func26 (by kernel_rfl) rfl #[.slice Ao22 x4_1.length co22, .agg #[.int .i64 ((rd_T51 l0 x5_1).f0), .int .i64 ((rd_T51 l0 x5_1).f1), .string ((rd_T51 l0 x5_1).f2)]] rfl (by (try simp only [List.map_toArray, List.map_cons, List.map_nil]); first | done | rfl | (simp only [List.length_drop, List.length_take]; rfl)) ?_; (with_reducible refine (ogivelaw10_do.calls kj5 (fun k_ => True) _ _ x4_1 ((rd_T51 l0 x5_1).f0) ((rd_T51 l0 x5_1).f1) ((rd_T51 l0 x5_1).f2) t312 _ ?side1 A11.out).mono ?_); (case side1 => exact HO_4.out); rintro e w23 ⟨v313, rfl, ho0, hb⟩; refine ⟨_, rfl, ?_⟩; have n0_ := Aside0.mk (Kd.V_below (by (with_reducible repeat (first | apply Kd.V_alloc | apply Kd.V_drewN | apply Kd.V_drew)); exact HO_4.out) hb); have n1_ := Aside0.mk (Kd.V_lower (Kd.V_mono (ok' := fun k_ => True) ho0 (fun k_ hk_ => trivial)) (below_size (by repeat (first | (with_reducible first | exact HB.out | apply below_alloc | apply pw_below_drewN | apply below_drew1) | exact HB.out)))); have n2_ := Aside0.mk (below_step (by repeat (first | (with_reducible first | exact HB.out | apply below_alloc | apply pw_below_drewN | apply below_drew1) | exact HB.out)) hb); clear HO_4; clear HB; have HO_4 := n0_; have HO314 := n1_; have HB := n2_; clear n0_ n1_ n2_; (try clear hb); (try clear hb2); (try clear hk); (try clear hi); (try clear ho0); obtain ⟨Ao24, co24, eo24⟩ := Kd.V_slice HO314.out; subst eo24) | ((with_reducible refine gate_callee (f := 15) rfl ?_); refine goesL_ (some 25) rfl rfl Try.func15 (by kernel_rfl) rfl #[.slice Ao24 t312.length co24] rfl (by (try simp only [List.map_toArray, List.map_cons, List.map_nil]); first | done | rfl | (simp only [List.length_drop, List.length_take]; rfl)) ?_; (with_reducible refine (chain_May.calls kj5 _ _ t312 true _ ?side1 ?side2 A12.out).mono ?_); (case side1 => repeat (first | exact (Kd.V_reads' HO314.out).2.2 | (with_reducible refine Kd.C_alloc ?_ _) | (with_reducible refine Kd.C_drewN ?_ _) | (with_reducible refine Kd.C_drew ?_))); (case side2 => exact (Kd.V_reads' HO314.out).2.1); rintro e w25 ⟨rfl, hb⟩; refine ⟨_, rfl, ?_⟩; have n0_ := Aside0.mk (Kd.V_below (by (with_reducible repeat (first | apply Kd.V_alloc | apply Kd.V_drewN | apply Kd.V_drew)); exact HO_4.out) hb); have n1_ := Aside0.mk (Kd.V_below (by (with_reducible repeat (first | apply Kd.V_alloc | apply Kd.V_drewN | apply Kd.V_drew)); exact HO314.out) hb); have n2_ := Aside0.mk (below_step (by repeat (first | (with_reducible first | exact HB.out | apply below_alloc | apply pw_below_drewN | apply below_drew1) | exact HB.out)) hb); clear HO_4; clear HO314; clear HB; have HO_4 := n0_; have HO314 := n1_; have HB := n2_; clear n0_ n1_ n2_; (try clear hb); (try clear hb2); (try clear hk); (try clear hi); have p316 : 0 ≤ (0 : Int) := (by omega); have q316 : 0 < (t312.length : Int) := of_decide_eq_true (by first | (with_reducible assumption) | assumption); obtain ⟨ad316, e316, hx316_0, hx316_1, hx316_2, hx316_3⟩ := at_T27 (Kd.V_reads' HO314.out).2.2 0 p316 q316; (try rw [← Nbq15.out] at hx316_3); cases e316; have qi316 : (0 < t312.length) = True := eq_true (by omega); (try rw [show ((0 : Int)).toNat = 0 from rfl] at hx316_0); (try rw [show 0 * 4 = 0 from rfl] at hx316_0); (try rw [Addr.add_zero'] at hx316_0); (try rw [show ((0 : Int)).toNat = 0 from rfl] at hx316_1); (try rw [show 0 * 4 = 0 from rfl] at hx316_1); (try rw [Addr.add_zero'] at hx316_1); (try rw [show ((0 : Int)).toNat = 0 from rfl] at hx316_2); (try rw [show 0 * 4 = 0 from rfl] at hx316_2); (try rw [Addr.add_zero'] at hx316_2); (try rw [show ((0 : Int)).toNat = 0 from rfl] at hx316_3); (try rw [show 0 * 4 = 0 from rfl] at hx316_3); (try rw [Addr.add_zero'] at hx316_3); replace p316 := eq_true p316; replace q316 := eq_true q316; have p317 : 0 ≤ (0 : Int) := (by omega); have q317 : 0 < (t312.length : Int) := of_decide_eq_true (by first | (with_reducible assumption) | assumption); obtain ⟨ad317, e317, hx317_0, hx317_1, hx317_2, hx317_3⟩ := at_T27 (Kd.V_reads' HO314.out).2.2 0 p317 q317; (try rw [← Nbq15.out] at hx317_3); obtain rfl : ad316 = ad317 := (by injection e317); have qi317 : (0 < t312.length) = True := eq_true (by omega); (try rw [show ((0 : Int)).toNat = 0 from rfl] at hx317_0); (try rw [show 0 * 4 = 0 from rfl] at hx317_0); (try rw [Addr.add_zero'] at hx317_0); (try rw [show ((0 : Int)).toNat = 0 from rfl] at hx317_1); (try rw [show 0 * 4 = 0 from rfl] at hx317_1); (try rw [Addr.add_zero'] at hx317_1); (try rw [show ((0 : Int)).toNat = 0 from rfl] at hx317_2); (try rw [show 0 * 4 = 0 from rfl] at hx317_2); (try rw [Addr.add_zero'] at hx317_2); (try rw [show ((0 : Int)).toNat = 0 from rfl] at hx317_3); (try rw [show 0 * 4 = 0 from rfl] at hx317_3); (try rw [Addr.add_zero'] at hx317_3); replace p317 := eq_true p317; replace q317 := eq_true q317))
                        go_ret
                        exact ⟨by first | rfl | (simp [errW_none, errW_some] <;> rfl) | (simp [*, errW_none, errW_some] <;> rfl), by repeat (first | (with_reducible first | exact HB.out | apply below_alloc | apply pw_below_drewN | apply below_drew1) | exact HB.out)⟩
                    · replace c16 := Bool.eq_false_iff.mpr c16
                      subst c16
                      have H1 : (some false) = some r := by rw [if_neg (show ¬ (false = true) by decide)] at H; exact H
                      clear H
                      have H := H1
                      clear H1
                      obtain rfl := Option.some.inj H
                      have p311 : 0 ≤ (x5_1 : Int) := of_decide_eq_true (by first | (with_reducible assumption) | assumption)
                      have q311 : x5_1 < (l0.length : Int) := of_decide_eq_true (by first | (with_reducible assumption) | assumption)
                      obtain ⟨ad311, e311, hx311_0, hx311_1, hx311_2⟩ := at_T51 HR0.out x5_1 p311 q311
                      cases e311
                      replace hx311_0 := (HB.out.cell (World.block_lt_of_cell? w _ hx311_0)).trans hx311_0
                      replace hx311_1 := (HB.out.cell (World.block_lt_of_cell? w _ hx311_1)).trans hx311_1
                      replace hx311_2 := (HB.out.cell (World.block_lt_of_cell? w _ hx311_2)).trans hx311_2
                      replace p311 := eq_true p311
                      replace q311 := eq_true q311
                      obtain ⟨Ao26, co26, eo26⟩ := Kd.V_slice HO_4.out
                      subst eo26
                      go_wp2_with (first | ((with_reducible refine gate_callee (f := 26) rfl ?_); refine goesL_ (some 23) rfl rfl Try.func26 (by kernel_rfl) rfl #[.slice Ao26 x4_1.length co26, .agg #[.int .i64 ((rd_T51 l0 x5_1).f0), .int .i64 ((rd_T51 l0 x5_1).f1), .string ((rd_T51 l0 x5_1).f2)]] rfl (by (try simp only [List.map_toArray, List.map_cons, List.map_nil]); first | done | rfl | (simp only [List.length_drop, List.length_take]; rfl)) ?_; (with_reducible refine (ogivelaw10_do.calls kj5 (fun k_ => True) _ _ x4_1 ((rd_T51 l0 x5_1).f0) ((rd_T51 l0 x5_1).f1) ((rd_T51 l0 x5_1).f2) t312 _ ?side1 A11.out).mono ?_); (case side1 => exact HO_4.out); rintro e w27 ⟨v313, rfl, ho0, hb⟩; refine ⟨_, rfl, ?_⟩; have n0_ := Aside0.mk (Kd.V_below (by (with_reducible repeat (first | apply Kd.V_alloc | apply Kd.V_drewN | apply Kd.V_drew)); exact HO_4.out) hb); have n1_ := Aside0.mk (Kd.V_lower (Kd.V_mono (ok' := fun k_ => True) ho0 (fun k_ hk_ => trivial)) (below_size (by repeat (first | (with_reducible first | exact HB.out | apply below_alloc | apply pw_below_drewN | apply below_drew1) | exact HB.out)))); have n2_ := Aside0.mk (below_step (by repeat (first | (with_reducible first | exact HB.out | apply below_alloc | apply pw_below_drewN | apply below_drew1) | exact HB.out)) hb); clear HO_4; clear HB; have HO_4 := n0_; have HO314 := n1_; have HB := n2_; clear n0_ n1_ n2_; (try clear hb); (try clear hb2); (try clear hk); (try clear hi); (try clear ho0); obtain ⟨Ao28, co28, eo28⟩ := Kd.V_slice HO314.out; subst eo28) | ((with_reducible refine gate_callee (f := 15) rfl ?_); refine goesL_ (some 25) rfl rfl Try.func15 (by kernel_rfl) rfl #[.slice Ao28 t312.length co28] rfl (by (try simp only [List.map_toArray, List.map_cons, List.map_nil]); first | done | rfl | (simp only [List.length_drop, List.length_take]; rfl)) ?_; (with_reducible refine (chain_May.calls kj5 _ _ t312 true _ ?side1 ?side2 A12.out).mono ?_); (case side1 => repeat (first | exact (Kd.V_reads' HO314.out).2.2 | (with_reducible refine Kd.C_alloc ?_ _) | (with_reducible refine Kd.C_drewN ?_ _) | (with_reducible refine Kd.C_drew ?_))); (case side2 => exact (Kd.V_reads' HO314.out).2.1); rintro e w29 ⟨rfl, hb⟩; refine ⟨_, rfl, ?_⟩; have n0_ := Aside0.mk (Kd.V_below (by (with_reducible repeat (first | apply Kd.V_alloc | apply Kd.V_drewN | apply Kd.V_drew)); exact HO_4.out) hb); have n1_ := Aside0.mk (Kd.V_below (by (with_reducible repeat (first | apply Kd.V_alloc | apply Kd.V_drewN | apply Kd.V_drew)); exact HO314.out) hb); have n2_ := Aside0.mk (below_step (by repeat (first | (with_reducible first | exact HB.out | apply below_alloc | apply pw_below_drewN | apply below_drew1) | exact HB.out)) hb); clear HO_4; clear HO314; clear HB; have HO_4 := n0_; have HO314 := n1_; have HB := n2_; clear n0_ n1_ n2_; (try clear hb); (try clear hb2); (try clear hk); (try clear hi); have p316 : 0 ≤ (0 : Int) := (by omega); have q316 : 0 < (t312.length : Int) := of_decide_eq_true (by first | (with_reducible assumption) | assumption); obtain ⟨ad316, e316, hx316_0, hx316_1, hx316_2, hx316_3⟩ := at_T27 (Kd.V_reads' HO314.out).2.2 0 p316 q316; (try rw [← Nbq15.out] at hx316_3); cases e316; have qi316 : (0 < t312.length) = True := eq_true (by omega); (try rw [show ((0 : Int)).toNat = 0 from rfl] at hx316_0); (try rw [show 0 * 4 = 0 from rfl] at hx316_0); (try rw [Addr.add_zero'] at hx316_0); (try rw [show ((0 : Int)).toNat = 0 from rfl] at hx316_1); (try rw [show 0 * 4 = 0 from rfl] at hx316_1); (try rw [Addr.add_zero'] at hx316_1); (try rw [show ((0 : Int)).toNat = 0 from rfl] at hx316_2); (try rw [show 0 * 4 = 0 from rfl] at hx316_2); (try rw [Addr.add_zero'] at hx316_2); (try rw [show ((0 : Int)).toNat = 0 from rfl] at hx316_3); (try rw [show 0 * 4 = 0 from rfl] at hx316_3); (try rw [Addr.add_zero'] at hx316_3); replace p316 := eq_true p316; replace q316 := eq_true q316))
                      go_ret
                      exact ⟨by first | rfl | (simp [errW_none, errW_some] <;> rfl) | (simp [*, errW_none, errW_some] <;> rfl), by repeat (first | (with_reducible first | exact HB.out | apply below_alloc | apply pw_below_drewN | apply below_drew1) | exact HB.out)⟩
                  · rw [if_neg c14] at H
                    exact absurd H (by simp)
                · replace c13 := Bool.eq_false_iff.mpr c13
                  subst c13
                  have H1 : (some false) = some r := by rw [if_neg (show ¬ (false = true) by decide)] at H; exact H
                  clear H
                  have H := H1
                  clear H1
                  obtain rfl := Option.some.inj H
                  have p311 : 0 ≤ (x5_1 : Int) := of_decide_eq_true (by first | (with_reducible assumption) | assumption)
                  have q311 : x5_1 < (l0.length : Int) := of_decide_eq_true (by first | (with_reducible assumption) | assumption)
                  obtain ⟨ad311, e311, hx311_0, hx311_1, hx311_2⟩ := at_T51 HR0.out x5_1 p311 q311
                  cases e311
                  replace hx311_0 := (HB.out.cell (World.block_lt_of_cell? w _ hx311_0)).trans hx311_0
                  replace hx311_1 := (HB.out.cell (World.block_lt_of_cell? w _ hx311_1)).trans hx311_1
                  replace hx311_2 := (HB.out.cell (World.block_lt_of_cell? w _ hx311_2)).trans hx311_2
                  replace p311 := eq_true p311
                  replace q311 := eq_true q311
                  obtain ⟨Ao30, co30, eo30⟩ := Kd.V_slice HO_4.out
                  subst eo30
                  go_wp2_with (first | ((with_reducible refine gate_callee (f := 26) rfl ?_); refine goesL_ (some 23) rfl rfl Try.func26 (by kernel_rfl) rfl #[.slice Ao30 x4_1.length co30, .agg #[.int .i64 ((rd_T51 l0 x5_1).f0), .int .i64 ((rd_T51 l0 x5_1).f1), .string ((rd_T51 l0 x5_1).f2)]] rfl (by (try simp only [List.map_toArray, List.map_cons, List.map_nil]); first | done | rfl | (simp only [List.length_drop, List.length_take]; rfl)) ?_; (with_reducible refine (ogivelaw10_do.calls kj5 (fun k_ => True) _ _ x4_1 ((rd_T51 l0 x5_1).f0) ((rd_T51 l0 x5_1).f1) ((rd_T51 l0 x5_1).f2) t312 _ ?side1 A11.out).mono ?_); (case side1 => exact HO_4.out); rintro e w31 ⟨v313, rfl, ho0, hb⟩; refine ⟨_, rfl, ?_⟩; have n0_ := Aside0.mk (Kd.V_below (by (with_reducible repeat (first | apply Kd.V_alloc | apply Kd.V_drewN | apply Kd.V_drew)); exact HO_4.out) hb); have n1_ := Aside0.mk (Kd.V_lower (Kd.V_mono (ok' := fun k_ => True) ho0 (fun k_ hk_ => trivial)) (below_size (by repeat (first | (with_reducible first | exact HB.out | apply below_alloc | apply pw_below_drewN | apply below_drew1) | exact HB.out)))); have n2_ := Aside0.mk (below_step (by repeat (first | (with_reducible first | exact HB.out | apply below_alloc | apply pw_below_drewN | apply below_drew1) | exact HB.out)) hb); clear HO_4; clear HB; have HO_4 := n0_; have HO314 := n1_; have HB := n2_; clear n0_ n1_ n2_; (try clear hb); (try clear hb2); (try clear hk); (try clear hi); (try clear ho0); obtain ⟨Ao32, co32, eo32⟩ := Kd.V_slice HO314.out; subst eo32) | ((with_reducible refine gate_callee (f := 15) rfl ?_); refine goesL_ (some 25) rfl rfl Try.func15 (by kernel_rfl) rfl #[.slice Ao32 t312.length co32] rfl (by (try simp only [List.map_toArray, List.map_cons, List.map_nil]); first | done | rfl | (simp only [List.length_drop, List.length_take]; rfl)) ?_; (with_reducible refine (chain_May.calls kj5 _ _ t312 false _ ?side1 ?side2 A12.out).mono ?_); (case side1 => repeat (first | exact (Kd.V_reads' HO314.out).2.2 | (with_reducible refine Kd.C_alloc ?_ _) | (with_reducible refine Kd.C_drewN ?_ _) | (with_reducible refine Kd.C_drew ?_))); (case side2 => exact (Kd.V_reads' HO314.out).2.1); rintro e w33 ⟨rfl, hb⟩; refine ⟨_, rfl, ?_⟩; have n0_ := Aside0.mk (Kd.V_below (by (with_reducible repeat (first | apply Kd.V_alloc | apply Kd.V_drewN | apply Kd.V_drew)); exact HO_4.out) hb); have n1_ := Aside0.mk (Kd.V_below (by (with_reducible repeat (first | apply Kd.V_alloc | apply Kd.V_drewN | apply Kd.V_drew)); exact HO314.out) hb); have n2_ := Aside0.mk (below_step (by repeat (first | (with_reducible first | exact HB.out | apply below_alloc | apply pw_below_drewN | apply below_drew1) | exact HB.out)) hb); clear HO_4; clear HO314; clear HB; have HO_4 := n0_; have HO314 := n1_; have HB := n2_; clear n0_ n1_ n2_; (try clear hb); (try clear hb2); (try clear hk); (try clear hi)))
                  go_ret
                  exact ⟨by first | rfl | (simp [errW_none, errW_some] <;> rfl) | (simp [*, errW_none, errW_some] <;> rfl), by repeat (first | (with_reducible first | exact HB.out | apply below_alloc | apply pw_below_drewN | apply below_drew1) | exact HB.out)⟩
              · rw [if_neg c10] at H
                exact absurd H (by simp)
            · rw [if_neg c9] at H
              exact absurd H (by simp)
          · replace c8 := Bool.eq_false_iff.mpr c8
            subst c8
            have H1 : (some t307) = some r := by rw [if_neg (show ¬ (false = true) by decide)] at H; exact H
            clear H
            have H := H1
            clear H1
            obtain rfl := Option.some.inj H
            go_wp2
            go_ret
            exact ⟨by first | rfl | (simp [errW_none, errW_some] <;> rfl) | (simp [*, errW_none, errW_some] <;> rfl), by repeat (first | (with_reducible first | exact HB.out | apply below_alloc | apply pw_below_drewN | apply below_drew1) | exact HB.out)⟩

end Go.Proofs.Ytdiahlfhcbcceaa.P
