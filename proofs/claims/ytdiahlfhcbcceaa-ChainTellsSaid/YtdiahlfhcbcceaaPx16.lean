-- Written for this claim by a program of this seat's (wip/tools), by way of the kit's printing program; not one of its printed files. Lean checks it.
import Derived.Test.YtdiahlfhcbcceaaPx0
import Derived.Test.YtdiahlfhcbcceaaPx13
import Derived.Test.YtdiahlfhcbcceaaPx14
namespace Go.Proofs.Ytdiahlfhcbcceaa.P
open Go.RowKit Go.Proofs.YtdiahlfhcbcceaaW.PrintWords Go.Proofs.YtdiahlfhcbcceaaW.PrintLast Go.Proofs.YtdiahlfhcbcceaaW.PrintMore
attribute [local go_sem] max2_int min2_int max_two min_two max_three min_three max_four min_four   -- for this text's walks alone
set_option linter.unusedVariables false
set_option linter.unusedSimpArgs false

/-! ### ogiveref10_Write: function 14 -/
theorem rw_cells4 {W : World} {g : Nat} {x0 x1 x2 x3 : Value} {t : TypeId} (h : W.heap[g]? = some (.cells #[x0, x1, x2, x3] t (0, 0))) :
    (W.cell? ⟨g, 0, none⟩ = some x0 ∧ W.cell? ⟨g, 1, none⟩ = some x1 ∧ W.cell? ⟨g, 2, none⟩ = some x2 ∧ W.cell? ⟨g, 3, none⟩ = some x3) ∧ (∀ j, W.frozen? ⟨g, j, none⟩ = false) :=
  ⟨⟨cell_of_row W g 0 _ _ _ h, cell_of_row W g 1 _ _ _ h, cell_of_row W g 2 _ _ _ h, cell_of_row W g 3 _ _ _ h⟩, fun j => by simp [World.frozen?, h]⟩
theorem rw_stored {w3 w4 : World} {gb : Nat} {t : TypeId} {x0 x1 x2 x3 y0 y1 y2 y3 : Value} (hbox : w4.heap[gb]? = some (.cells #[x0, x1, x2, x3] t (0, 0))) (hg : gb = w3.heap.size) (hb : Below w3.heap.size w3 w4) :
    ((((w4.setCell ⟨gb, 0, none⟩ y0).setCell ⟨gb, 1, none⟩ y1).setCell ⟨gb, 2, none⟩ y2).setCell ⟨gb, 3, none⟩ y3).heap[gb]? = some (.cells #[y0, y1, y2, y3] t (0, 0)) ∧ Below w3.heap.size w3 ((((w4.setCell ⟨gb, 0, none⟩ y0).setCell ⟨gb, 1, none⟩ y1).setCell ⟨gb, 2, none⟩ y2).setCell ⟨gb, 3, none⟩ y3) := by
  have hl := Nat.le_of_eq hg.symm
  exact ⟨blk_set (blk_set (blk_set (blk_set hbox 0 _) 1 _) 2 _) 3 _, below_set (below_set (below_set (below_set hb hl) hl) hl) hl⟩
def ogiveref10_Write.j0 : Nat → List (S30) → Int → ByteArray → Int → Bool → Option ((List (S30)) × Int)
  | 0, _, _, _, _, _ => none
  | k + 1, x0, x1, x2, x8, x40 => if x40 = true then (some (x0, 8)) else (if 0 ≤ x8 then (if x8 < (x0.length : Int) then (if ((rd_T30 x0 x8).f0) = x1 then ((ogiveref10_with.f x0 x8 ((rd_T30 x0 x8).f0) ((rd_T30 x0 x8).f1) x2 ((rd_T30 x0 x8).f3)).bind fun t164 => (some (t164, 0))) else ((some (([] : List (S30)) : List (S30))).bind fun y167 => (if 0 ≤ (wrap64 (x8 + 1)) then (if (wrap64 (x8 + 1)) ≤ (x0.length : Int) then ((some (x0.take ((wrap64 (x8 + 1)) : Int).toNat : List (S30))).bind fun y170 => (if y167.length + y170.length < 3518437208883 then ((some (y167 ++ y170 : List (S30))).bind fun y175 => (if y175.length < 3518437208883 then ((some (y175 ++ [(⟨x1, x1, x2, false⟩ : S30)] : List (S30))).bind fun y178 => ((some (x0.drop ((wrap64 (x8 + 1)) : Int).toNat : List (S30))).bind fun y181 => (if y178.length + y181.length < 3518437208883 then (some ((y178 ++ y181), 0)) else (none)))) else (none))) else (none))) else (none)) else (none)))) else (none)) else (none))
def ogiveref10_Write.f (k : Nat) (l0 : List (S30)) (a1 : Int) (a2 : ByteArray) : Option ((List (S30)) × Int) := (ogiveref10_Look.f k l0 a1).bind fun t157 => (if t157 < 0 then (ogiveref10_Write.j0 k l0 a1 a2 t157 true) else (if 0 ≤ t157 then (if t157 < (l0.length : Int) then (if ((rd_T30 l0 t157).f1) > a1 then (ogiveref10_Write.j0 k l0 a1 a2 t157 true) else (if (rd_T30 l0 t157).f3 = true then (ogiveref10_Write.j0 k l0 a1 a2 t157 (((rd_T30 l0 t157).f0) == a1)) else (ogiveref10_Write.j0 k l0 a1 a2 t157 false))) else (none)) else (none)))
theorem ogiveref10_Write.mono_l : ∀ k, (∀ y0 y1 y2 y3 y4, LeO (ogiveref10_Write.j0 k y0 y1 y2 y3 y4) (ogiveref10_Write.j0 (k + 1) y0 y1 y2 y3 y4))
  | 0 => fun _ _ _ _ _ r h => by simp [ogiveref10_Write.j0] at h
  | k + 1 => by
    have ih0 := ogiveref10_Write.mono_l k
    · intro y0 y1 y2 y3 y4
      unfold ogiveref10_Write.j0
      repeat' first
      | (with_reducible exact ih0 _ _ _ _ _)
      | (with_reducible exact ogiveref10_Look.mono _ _ _)
      | (with_reducible exact LeO.refl _)
      | (with_reducible exact LeO.none _)
      | (with_reducible refine LeO.ite ?_ ?_)
      | (with_reducible refine LeO.bind ?_ (fun _ => ?_))
      | exact ih0 _ _ _ _ _
      | exact ogiveref10_Look.mono _ _ _
      | exact LeO.none _
      | refine LeO.ite ?_ ?_
      | refine LeO.bind ?_ (fun _ => ?_)
theorem ogiveref10_Write.mono : ∀ a0 a1 a2 k, LeO (ogiveref10_Write.f k a0 a1 a2) (ogiveref10_Write.f (k + 1) a0 a1 a2) := by
  intro a0 a1 a2 k
  have ih0 := ogiveref10_Write.mono_l k
  unfold ogiveref10_Write.f
  repeat' first
      | (with_reducible exact ih0 _ _ _ _ _)
      | (with_reducible exact ogiveref10_Look.mono _ _ _)
      | (with_reducible exact LeO.refl _)
      | (with_reducible exact LeO.none _)
      | (with_reducible refine LeO.ite ?_ ?_)
      | (with_reducible refine LeO.bind ?_ (fun _ => ?_))
      | exact ih0 _ _ _ _ _
      | exact ogiveref10_Look.mono _ _ _
      | exact LeO.none _
      | refine LeO.ite ?_ ?_
      | refine LeO.bind ?_ (fun _ => ?_)
set_option maxHeartbeats 8000000 in
set_option maxRecDepth 100000 in
theorem ogiveref10_Write.calls (k : Nat) (P0_ : Nat → Prop) (A0 : Option Addr) (c0 : Nat) (l0 : List (S30)) (a1 : Int) (a2 : ByteArray) (r1 : List (S30)) (r2 : Int) (w : World) (hs0 : Kd.V k30 30 w w.heap.size (fun k_ => P0_ k_) (.slice A0 l0.length c0) l0) (h : ogiveref10_Write.f k l0 a1 a2 = some (r1, r2)) :
    Calls Try.prog 14 #[.slice A0 l0.length c0, .int .i64 a1, .string a2] w fun e w' => ∃ v0_ : Value, e = .returned (.tuple #[v0_, .int .i64 r2]) ∧ Kd.V k30 30 w' w.heap.size (fun k_ => (P0_ k_ ∨ w.heap.size ≤ k_)) v0_ r1 ∧ Below w.heap.size w w' := by
  have hu30 := Try.underlying30
  have HO0 := Aside0.mk (show Kd.V k30 30 w w.heap.size (fun k_ => (P0_ k_ ∨ w.heap.size ≤ k_)) (.slice A0 l0.length c0) l0 from Kd.V_mono hs0 (fun k_ hk => .inl hk))
  have HB := Aside0.mk (Below.refl w.heap.size w)
  have H : ((ogiveref10_Look.f k l0 a1).bind fun t157 => (if t157 < 0 then (ogiveref10_Write.j0 k l0 a1 a2 t157 true) else (if 0 ≤ t157 then (if t157 < (l0.length : Int) then (if ((rd_T30 l0 t157).f1) > a1 then (ogiveref10_Write.j0 k l0 a1 a2 t157 true) else (if (rd_T30 l0 t157).f3 = true then (ogiveref10_Write.j0 k l0 a1 a2 t157 (((rd_T30 l0 t157).f0) == a1)) else (ogiveref10_Write.j0 k l0 a1 a2 t157 false))) else (none)) else (none)))) = some (r1, r2) := h
  clear h
  replace H := Option.bind_eq_some_iff.mp H
  obtain ⟨t157, A40, H⟩ := H
  replace H : (if t157 < 0 then (ogiveref10_Write.j0 k l0 a1 a2 t157 true) else (if 0 ≤ t157 then (if t157 < (l0.length : Int) then (if ((rd_T30 l0 t157).f1) > a1 then (ogiveref10_Write.j0 k l0 a1 a2 t157 true) else (if (rd_T30 l0 t157).f3 = true then (ogiveref10_Write.j0 k l0 a1 a2 t157 (((rd_T30 l0 t157).f0) == a1)) else (ogiveref10_Write.j0 k l0 a1 a2 t157 false))) else (none)) else (none))) = some (r1, r2) := H
  have A4 := Aside0.mk A40
  clear A40
  have HC5 := Aside0.mk H
  clear H
  go_enter Try.func14, Try.ntmps14
  go_upto_region 2 with (first | ((with_reducible refine gate_callee (f := 18) rfl ?_); refine goesL_ (some 13) rfl rfl Try.func18 (by kernel_rfl) rfl #[.slice A0 l0.length c0, .int .i64 a1] rfl (by (try simp only [List.map_toArray, List.map_cons, List.map_nil]); first | done | rfl | (simp only [List.length_drop, List.length_take]; rfl)) ?_; (with_reducible refine (ogiveref10_Look.calls k _ _ l0 a1 t157 _ ?side1 ?side2 A4.out).mono ?_); (case side1 => repeat (first | exact (Kd.V_reads' HO0.out).2.2 | (with_reducible refine Kd.C_alloc ?_ _) | (with_reducible refine Kd.C_drewN ?_ _) | (with_reducible refine Kd.C_drew ?_))); (case side2 => exact (Kd.V_reads' HO0.out).2.1); rintro e w' ⟨rfl, ⟨nd, rfl⟩⟩; refine ⟨_, rfl, ?_⟩))
  (try simp only [Act.put, List.setIfInBounds_toArray, List.set_cons_zero, List.set_cons_succ])
  go_cut [40] (fun v40 wc => ∃ (kq : Nat) (x40_4 : Bool), v40 = .bool x40_4 ∧ Aside0 (ogiveref10_Write.j0 kq l0 a1 a2 t157 x40_4 = some (r1, r2)) ∧ Aside0 (kq ≤ k) ∧ Aside0 (Kd.V k30 30 wc w.heap.size (fun k_ => (P0_ k_ ∨ w.heap.size ≤ k_)) (.slice A0 l0.length c0) l0) ∧ Aside0 (Below w.heap.size w wc))
  case first =>
    have H := HC5.out
    clear HC5
    by_cases c6 : t157 < 0
    · rw [if_pos c6] at H
      have c6b0 : decide (t157 < 0) = true := decide_eq_true c6
      clear c6
      (first | rw [c6b0] | (simp only [i64_w, i32_w]; rw [c6b0]) | skip)
      have H' := Aside0.mk H
      clear H
      go_wp2
      go_meet
      case rel => exact ⟨_, (true), (by first | rfl | (simp; done) | (simp [*]; done)), H', ⟨by first | omega | exact Nat.le_refl _⟩, ⟨by (with_reducible repeat (first | apply Kd.V_alloc | apply Kd.V_drewN | apply Kd.V_drew)); exact HO0.out⟩, ⟨by repeat (first | (with_reducible first | exact HB.out | apply below_alloc | apply pw_below_drewN | apply below_drew1) | exact HB.out)⟩⟩
    · rw [if_neg c6] at H
      have c6b0 : decide (t157 < 0) = false := decide_eq_false c6
      clear c6
      (first | rw [c6b0] | (simp only [i64_w, i32_w]; rw [c6b0]) | skip)
      by_cases c7 : 0 ≤ t157
      · rw [if_pos c7] at H
        have c7b0 : decide (0 ≤ t157) = true := decide_eq_true c7
        clear c7
        by_cases c8 : t157 < (l0.length : Int)
        · rw [if_pos c8] at H
          have c8b0 : decide (t157 < (l0.length : Int)) = true := decide_eq_true c8
          clear c8
          by_cases c9 : ((rd_T30 l0 t157).f1) > a1
          · rw [if_pos c9] at H
            have c9b0 : decide (a1 < ((rd_T30 l0 t157).f1)) = true := decide_eq_true c9
            clear c9
            have H' := Aside0.mk H
            clear H
            have p158 : 0 ≤ (t157 : Int) := of_decide_eq_true (by first | (with_reducible assumption) | assumption)
            have q158 : t157 < (l0.length : Int) := of_decide_eq_true (by first | (with_reducible assumption) | assumption)
            obtain ⟨ad158, e158, hx158_0, hx158_1, hx158_2, hx158_3⟩ := at_T30 (Kd.V_reads' HO0.out).2.2 t157 p158 q158
            cases e158
            replace p158 := eq_true p158
            replace q158 := eq_true q158
            go_wp2
            go_meet
            case rel => exact ⟨_, (true), (by first | rfl | (simp; done) | (simp [*]; done)), H', ⟨by first | omega | exact Nat.le_refl _⟩, ⟨by (with_reducible repeat (first | apply Kd.V_alloc | apply Kd.V_drewN | apply Kd.V_drew)); exact HO0.out⟩, ⟨by repeat (first | (with_reducible first | exact HB.out | apply below_alloc | apply pw_below_drewN | apply below_drew1) | exact HB.out)⟩⟩
          · rw [if_neg c9] at H
            have c9b0 : decide (a1 < ((rd_T30 l0 t157).f1)) = false := decide_eq_false c9
            clear c9
            obtain ⟨bq10, hbq10⟩ : ∃ b_ : Bool, b_ = ((rd_T30 l0 t157).f3) := ⟨_, rfl⟩
            replace H : (if bq10 = true then (ogiveref10_Write.j0 k l0 a1 a2 t157 (((rd_T30 l0 t157).f0) == a1)) else (ogiveref10_Write.j0 k l0 a1 a2 t157 false)) = some (r1, r2) := by rw [← hbq10] at H; exact H
            have Nbq10 := Aside0.mk hbq10
            clear hbq10
            by_cases c11 : bq10 = true
            · subst c11
              have H1 : (ogiveref10_Write.j0 k l0 a1 a2 t157 (((rd_T30 l0 t157).f0) == a1)) = some (r1, r2) := by rw [if_pos rfl] at H; exact H
              clear H
              have H := H1
              clear H1
              have H' := Aside0.mk H
              clear H
              have p158 : 0 ≤ (t157 : Int) := of_decide_eq_true (by first | (with_reducible assumption) | assumption)
              have q158 : t157 < (l0.length : Int) := of_decide_eq_true (by first | (with_reducible assumption) | assumption)
              obtain ⟨ad158, e158, hx158_0, hx158_1, hx158_2, hx158_3⟩ := at_T30 (Kd.V_reads' HO0.out).2.2 t157 p158 q158
              (try rw [← Nbq10.out] at hx158_3)
              cases e158
              replace p158 := eq_true p158
              replace q158 := eq_true q158
              have p159 : 0 ≤ (t157 : Int) := of_decide_eq_true (by first | (with_reducible assumption) | assumption)
              have q159 : t157 < (l0.length : Int) := of_decide_eq_true (by first | (with_reducible assumption) | assumption)
              obtain ⟨ad159, e159, hx159_0, hx159_1, hx159_2, hx159_3⟩ := at_T30 (Kd.V_reads' HO0.out).2.2 t157 p159 q159
              (try rw [← Nbq10.out] at hx159_3)
              obtain rfl : ad158 = ad159 := (by injection e159)
              replace p159 := eq_true p159
              replace q159 := eq_true q159
              have p160 : 0 ≤ (t157 : Int) := of_decide_eq_true (by first | (with_reducible assumption) | assumption)
              have q160 : t157 < (l0.length : Int) := of_decide_eq_true (by first | (with_reducible assumption) | assumption)
              obtain ⟨ad160, e160, hx160_0, hx160_1, hx160_2, hx160_3⟩ := at_T30 (Kd.V_reads' HO0.out).2.2 t157 p160 q160
              (try rw [← Nbq10.out] at hx160_3)
              obtain rfl : ad158 = ad160 := (by injection e160)
              replace p160 := eq_true p160
              replace q160 := eq_true q160
              go_wp2
              go_meet
              case rel => exact ⟨_, ((((rd_T30 l0 t157).f0) == a1)), (by first | rfl | (simp; done) | (simp [*]; done)), H', ⟨by first | omega | exact Nat.le_refl _⟩, ⟨by (with_reducible repeat (first | apply Kd.V_alloc | apply Kd.V_drewN | apply Kd.V_drew)); exact HO0.out⟩, ⟨by repeat (first | (with_reducible first | exact HB.out | apply below_alloc | apply pw_below_drewN | apply below_drew1) | exact HB.out)⟩⟩
            · replace c11 := Bool.eq_false_iff.mpr c11
              subst c11
              have H1 : (ogiveref10_Write.j0 k l0 a1 a2 t157 false) = some (r1, r2) := by rw [if_neg (show ¬ (false = true) by decide)] at H; exact H
              clear H
              have H := H1
              clear H1
              have H' := Aside0.mk H
              clear H
              have p158 : 0 ≤ (t157 : Int) := of_decide_eq_true (by first | (with_reducible assumption) | assumption)
              have q158 : t157 < (l0.length : Int) := of_decide_eq_true (by first | (with_reducible assumption) | assumption)
              obtain ⟨ad158, e158, hx158_0, hx158_1, hx158_2, hx158_3⟩ := at_T30 (Kd.V_reads' HO0.out).2.2 t157 p158 q158
              (try rw [← Nbq10.out] at hx158_3)
              cases e158
              replace p158 := eq_true p158
              replace q158 := eq_true q158
              have p159 : 0 ≤ (t157 : Int) := of_decide_eq_true (by first | (with_reducible assumption) | assumption)
              have q159 : t157 < (l0.length : Int) := of_decide_eq_true (by first | (with_reducible assumption) | assumption)
              obtain ⟨ad159, e159, hx159_0, hx159_1, hx159_2, hx159_3⟩ := at_T30 (Kd.V_reads' HO0.out).2.2 t157 p159 q159
              (try rw [← Nbq10.out] at hx159_3)
              obtain rfl : ad158 = ad159 := (by injection e159)
              replace p159 := eq_true p159
              replace q159 := eq_true q159
              go_wp2
              go_meet
              case rel => exact ⟨_, (false), (by first | rfl | (simp; done) | (simp [*]; done)), H', ⟨by first | omega | exact Nat.le_refl _⟩, ⟨by (with_reducible repeat (first | apply Kd.V_alloc | apply Kd.V_drewN | apply Kd.V_drew)); exact HO0.out⟩, ⟨by repeat (first | (with_reducible first | exact HB.out | apply below_alloc | apply pw_below_drewN | apply below_drew1) | exact HB.out)⟩⟩
        · rw [if_neg c8] at H
          exact absurd H (by simp)
      · rw [if_neg c7] at H
        exact absurd H (by simp)
  case rest =>
    clear HC5
    try clear c1
    try clear p1
    try clear q1
    try clear hx1
    try clear p2
    try clear c6
    try clear c6b0
    try clear c7
    try clear c7b0
    try clear c8
    try clear c8b0
    try clear c9
    try clear c9b0
    try clear q10
    try clear c11
    try clear hx158_0
    try clear hx158_1
    try clear hx158_2
    try clear hx158_3
    try clear hx159_0
    try clear hx159_1
    try clear hx159_2
    try clear hx159_3
    try clear hx160_0
    try clear hx160_1
    try clear hx160_2
    try clear hx160_3
    try clear p158
    try clear p159
    try clear p160
    try clear q158
    try clear q159
    try clear q160
    obtain ⟨kq, x40_4, rfl, HA, HJ4, HO_0, HB⟩ := hcut
    cases kq with
    | zero => exact absurd HA.out (by simp [ogiveref10_Write.j0])
    | succ kj4 =>
      have H := HA.out
      clear HA
      simp only [ogiveref10_Write.j0] at H
      by_cases c12 : x40_4 = true
      · subst c12
        have H1 : (some (l0, 8)) = some (r1, r2) := by rw [if_pos rfl] at H; exact H
        clear H
        have H := H1
        clear H1
        simp only [Option.some.injEq, Prod.mk.injEq] at H
        obtain ⟨rfl, rfl⟩ := H
        go_wp2
        go_ret2
        exact ⟨_, by first | rfl | (simp [errW_none, errW_some] <;> rfl) | (simp [*, errW_none, errW_some] <;> rfl), by (with_reducible repeat (first | apply Kd.V_alloc | apply Kd.V_drewN | apply Kd.V_drew)); exact HO_0.out, by repeat (first | (with_reducible first | exact HB.out | apply below_alloc | apply pw_below_drewN | apply below_drew1) | exact HB.out)⟩
      · replace c12 := Bool.eq_false_iff.mpr c12
        subst c12
        have H1 : (if 0 ≤ t157 then (if t157 < (l0.length : Int) then (if ((rd_T30 l0 t157).f0) = a1 then ((ogiveref10_with.f l0 t157 ((rd_T30 l0 t157).f0) ((rd_T30 l0 t157).f1) a2 ((rd_T30 l0 t157).f3)).bind fun t164 => (some (t164, 0))) else ((some (([] : List (S30)) : List (S30))).bind fun y167 => (if 0 ≤ (wrap64 (t157 + 1)) then (if (wrap64 (t157 + 1)) ≤ (l0.length : Int) then ((some (l0.take ((wrap64 (t157 + 1)) : Int).toNat : List (S30))).bind fun y170 => (if y167.length + y170.length < 3518437208883 then ((some (y167 ++ y170 : List (S30))).bind fun y175 => (if y175.length < 3518437208883 then ((some (y175 ++ [(⟨a1, a1, a2, false⟩ : S30)] : List (S30))).bind fun y178 => ((some (l0.drop ((wrap64 (t157 + 1)) : Int).toNat : List (S30))).bind fun y181 => (if y178.length + y181.length < 3518437208883 then (some ((y178 ++ y181), 0)) else (none)))) else (none))) else (none))) else (none)) else (none)))) else (none)) else (none)) = some (r1, r2) := by rw [if_neg (show ¬ (false = true) by decide)] at H; exact H
        clear H
        have H := H1
        clear H1
        by_cases c13 : 0 ≤ t157
        · rw [if_pos c13] at H
          have c13b0 : decide (0 ≤ t157) = true := decide_eq_true c13
          clear c13
          by_cases c14 : t157 < (l0.length : Int)
          · rw [if_pos c14] at H
            have c14b0 : decide (t157 < (l0.length : Int)) = true := decide_eq_true c14
            clear c14
            by_cases c15 : ((rd_T30 l0 t157).f0) = a1
            · rw [if_pos c15] at H
              have c15b0 : (((rd_T30 l0 t157).f0) == a1) = true := beq_iff_eq.mpr c15
              have c15b1 : (((rd_T30 l0 t157).f0) != a1) = false := bne_eq_false_iff_eq.mpr c15
              clear c15
              replace H := Option.bind_eq_some_iff.mp H
              obtain ⟨t164, A160, H⟩ := H
              replace H : (some (t164, 0)) = some (r1, r2) := H
              have A16 := Aside0.mk A160
              clear A160
              simp only [Option.some.injEq, Prod.mk.injEq] at H
              obtain ⟨rfl, rfl⟩ := H
              have p161 : 0 ≤ (t157 : Int) := of_decide_eq_true (by first | (with_reducible assumption) | assumption)
              have q161 : t157 < (l0.length : Int) := of_decide_eq_true (by first | (with_reducible assumption) | assumption)
              obtain ⟨ad161, e161, hx161_0, hx161_1, hx161_2, hx161_3⟩ := at_T30 (Kd.V_reads' HO_0.out).2.2 t157 p161 q161
              cases e161
              replace p161 := eq_true p161
              replace q161 := eq_true q161
              have p162 : 0 ≤ (t157 : Int) := of_decide_eq_true (by first | (with_reducible assumption) | assumption)
              have q162 : t157 < (l0.length : Int) := of_decide_eq_true (by first | (with_reducible assumption) | assumption)
              obtain ⟨ad162, e162, hx162_0, hx162_1, hx162_2, hx162_3⟩ := at_T30 (Kd.V_reads' HO_0.out).2.2 t157 p162 q162
              obtain rfl : ad161 = ad162 := (by injection e162)
              replace p162 := eq_true p162
              replace q162 := eq_true q162
              obtain ⟨x, hxx⟩ : ∃ x, rd_T30 l0 t157 = x := ⟨_, rfl⟩
              have A17 := A16.out
              rw [hxx] at A17 hx161_0 hx161_1 hx161_2 hx161_3 c15b0 c15b1
              have A18 := Aside0.mk A17
              clear A17 hxx hx162_0 hx162_1 hx162_2 hx162_3
              go_upto_region 6 with ((with_reducible refine gate_dst (N := 9) rfl ?_); refine box_event ?hg (N := 9) ?hd (cs := #[.int .i64 0, .int .i64 0, .string (⟨#[]⟩ : ByteArray), .bool false]) (t := 30) ?hr ?_; (case hd => rfl); (case hg => rfl); (case hr => first | (go_simp; done) | (go_simp; rfl)); intro gb hg wb hbox hb; have HBX := Aside0.mk hbox; have HGX := Aside0.mk hg; have HBB := Aside0.mk hb; obtain ⟨⟨z0, z1, z2, z3⟩, zf⟩ := rw_cells4 hbox; have zf0 := zf 0; have zf1 := zf 1; have zf2 := zf 2; have zf3 := zf 3; clear hbox hg hb zf)
              obtain ⟨W, hW⟩ : ∃ W, ((((wb.setCell ⟨gb, 0, none⟩ (.int .i64 x.f0)).setCell ⟨gb, 1, none⟩ (.int .i64 x.f1)).setCell ⟨gb, 2, none⟩ (.string x.f2)).setCell ⟨gb, 3, none⟩ (.bool x.f3)) = W := ⟨_, rfl⟩
              rw [hW]
              have hst := rw_stored (y0 := .int .i64 x.f0) (y1 := .int .i64 x.f1) (y2 := .string x.f2) (y3 := .bool x.f3) HBX.out HGX.out HBB.out
              rw [hW] at hst
              have hb2 := below_set (v := .string a2) (j := 2) hst.2 (Nat.le_of_eq HGX.out.symm)
              have HV2 := Aside0.mk (Kd.V_below HO_0.out hb2)
              have HB2 := Aside0.mk (HB.out.trans (hb2.mono HB.out.size))
              clear z0 z1 z2 z3 zf0 zf1 zf2 zf3 hx161_0 hx161_1 hx161_2 hx161_3
              obtain ⟨⟨z0, z1, z2, z3⟩, zf⟩ := rw_cells4 hst.1
              have zf2 := zf 2
              clear zf hW hst HBX HGX HBB hb2
              go_wp2_with fail
              obtain ⟨_, hcc, hCC⟩ := Kd.V_reads' HV2.out
              refine (ogiveref10_with.calls _ _ l0 t157 x.f0 x.f1 a2 x.f3 t164 _ hCC hcc A18.out).mono ?_
              rintro e w5 ⟨v5, rfl, ho5, b5⟩
              have HR5 := Aside0.mk ho5
              have HB5 := Aside0.mk (HB2.out.trans (b5.mono HB2.out.size))
              clear hcc hCC ho5 b5 z0 z1 z2 z3 zf2
              go_wp2
              refine bodyPost_ret (results_tmp2 rfl _ _ _) rfl ?_
              exact ⟨_, rfl, Kd.V_mono (Kd.R_V (Kd.R_mono (Kd.R_bound HR5.out) (fun k_ hk_ => Nat.le_trans HB2.out.size hk_.2.1))) (fun k_ hk_ => .inr hk_), HB5.out⟩
            · rw [if_neg c15] at H
              have c15b0 : (((rd_T30 l0 t157).f0) == a1) = false := beq_eq_false_iff_ne.mpr c15
              have c15b1 : (((rd_T30 l0 t157).f0) != a1) = true := bne_iff_ne.mpr c15
              obtain ⟨y167, hy167⟩ : ∃ y_ : List (S30), y_ = (([] : List (S30))) := ⟨_, rfl⟩
              replace H : (if 0 ≤ (wrap64 (t157 + 1)) then (if (wrap64 (t157 + 1)) ≤ (l0.length : Int) then ((some (l0.take ((wrap64 (t157 + 1)) : Int).toNat : List (S30))).bind fun y170 => (if y167.length + y170.length < 3518437208883 then ((some (y167 ++ y170 : List (S30))).bind fun y175 => (if y175.length < 3518437208883 then ((some (y175 ++ [(⟨a1, a1, a2, false⟩ : S30)] : List (S30))).bind fun y178 => ((some (l0.drop ((wrap64 (t157 + 1)) : Int).toNat : List (S30))).bind fun y181 => (if y178.length + y181.length < 3518437208883 then (some ((y178 ++ y181), 0)) else (none)))) else (none))) else (none))) else (none)) else (none)) = some (r1, r2) := by first | (rw [hy167]; with_reducible exact H) | (have H2_ := (Option.bind_some _ _).symm.trans H; rw [hy167]; with_reducible exact H2_) | (have H2_ := (Option.bind_some _ _).symm.trans H; with_reducible exact H2_) | with_reducible exact H | (rw [hy167]; exact H) | exact H
              have Ny167 := Aside0.mk hy167
              clear hy167
              obtain ⟨ji20, hji20⟩ : ∃ j_ : Int, (wrap64 (t157 + 1)) = j_ := ⟨_, rfl⟩
              replace H : (if 0 ≤ (ji20) then (if (ji20) ≤ (l0.length : Int) then ((some (l0.take ((ji20) : Int).toNat : List (S30))).bind fun y170 => (if y167.length + y170.length < 3518437208883 then ((some (y167 ++ y170 : List (S30))).bind fun y175 => (if y175.length < 3518437208883 then ((some (y175 ++ [(⟨a1, a1, a2, false⟩ : S30)] : List (S30))).bind fun y178 => ((some (l0.drop ((ji20) : Int).toNat : List (S30))).bind fun y181 => (if y178.length + y181.length < 3518437208883 then (some ((y178 ++ y181), 0)) else (none)))) else (none))) else (none))) else (none)) else (none)) = some (r1, r2) := by first | (rw [hji20] at H; exact H) | (simp only [hji20] at H ⊢; exact H)
              have hji20w : (IntKind.i64.wrap (t157 + 1)) = ji20 := (i64_w _).trans hji20
              by_cases c21 : 0 ≤ (ji20)
              · rw [if_pos c21] at H
                have c21b0 := eq_true c21
                have c21b1 : decide (0 ≤ (ji20)) = true := decide_eq_true c21
                clear c21
                by_cases c22 : (ji20) ≤ (l0.length : Int)
                · rw [if_pos c22] at H
                  have c22b0 := eq_true c22
                  have c22b1 : decide ((ji20) ≤ (l0.length : Int)) = true := decide_eq_true c22
                  clear c22
                  obtain ⟨y170, hy170⟩ : ∃ y_ : List (S30), y_ = (l0.take ((ji20) : Int).toNat) := ⟨_, rfl⟩
                  replace H : (if y167.length + y170.length < 3518437208883 then ((some (y167 ++ y170 : List (S30))).bind fun y175 => (if y175.length < 3518437208883 then ((some (y175 ++ [(⟨a1, a1, a2, false⟩ : S30)] : List (S30))).bind fun y178 => ((some (l0.drop ((ji20) : Int).toNat : List (S30))).bind fun y181 => (if y178.length + y181.length < 3518437208883 then (some ((y178 ++ y181), 0)) else (none)))) else (none))) else (none)) = some (r1, r2) := by first | (rw [hy170]; with_reducible exact H) | (have H2_ := (Option.bind_some _ _).symm.trans H; rw [hy170]; with_reducible exact H2_) | (have H2_ := (Option.bind_some _ _).symm.trans H; with_reducible exact H2_) | with_reducible exact H | (rw [hy170]; exact H) | exact H
                  have Ny170 := Aside0.mk hy170
                  clear hy170
                  by_cases c23 : y167.length + y170.length < 3518437208883
                  · rw [if_pos c23] at H
                    have LMc23 := Aside0.mk c23
                    clear c23
                    obtain ⟨y175, hy175⟩ : ∃ y_ : List (S30), y_ = (y167 ++ y170) := ⟨_, rfl⟩
                    replace H : (if y175.length < 3518437208883 then ((some (y175 ++ [(⟨a1, a1, a2, false⟩ : S30)] : List (S30))).bind fun y178 => ((some (l0.drop ((ji20) : Int).toNat : List (S30))).bind fun y181 => (if y178.length + y181.length < 3518437208883 then (some ((y178 ++ y181), 0)) else (none)))) else (none)) = some (r1, r2) := by first | (rw [hy175]; with_reducible exact H) | (have H2_ := (Option.bind_some _ _).symm.trans H; rw [hy175]; with_reducible exact H2_) | (have H2_ := (Option.bind_some _ _).symm.trans H; with_reducible exact H2_) | with_reducible exact H | (rw [hy175]; exact H) | exact H
                    have Ny175 := Aside0.mk hy175
                    clear hy175
                    by_cases c24 : y175.length < 3518437208883
                    · rw [if_pos c24] at H
                      have LMc24 := Aside0.mk c24
                      clear c24
                      obtain ⟨y178, hy178⟩ : ∃ y_ : List (S30), y_ = (y175 ++ [(⟨a1, a1, a2, false⟩ : S30)]) := ⟨_, rfl⟩
                      replace H : ((some (l0.drop ((ji20) : Int).toNat : List (S30))).bind fun y181 => (if y178.length + y181.length < 3518437208883 then (some ((y178 ++ y181), 0)) else (none))) = some (r1, r2) := by first | (rw [hy178]; with_reducible exact H) | (have H2_ := (Option.bind_some _ _).symm.trans H; rw [hy178]; with_reducible exact H2_) | (have H2_ := (Option.bind_some _ _).symm.trans H; with_reducible exact H2_) | with_reducible exact H | (rw [hy178]; exact H) | exact H
                      have Ny178 := Aside0.mk hy178
                      clear hy178
                      have c25b0 := eq_true (of_decide_eq_true (by first | (with_reducible assumption) | assumption) : 0 ≤ (ji20))
                      have c26b0 := eq_true (of_decide_eq_true (by first | (with_reducible assumption) | assumption) : (ji20) ≤ (l0.length : Int))
                      obtain ⟨y181, hy181⟩ : ∃ y_ : List (S30), y_ = (l0.drop ((ji20) : Int).toNat) := ⟨_, rfl⟩
                      replace H : (if y178.length + y181.length < 3518437208883 then (some ((y178 ++ y181), 0)) else (none)) = some (r1, r2) := by first | (rw [hy181]; with_reducible exact H) | (have H2_ := (Option.bind_some _ _).symm.trans H; rw [hy181]; with_reducible exact H2_) | (have H2_ := (Option.bind_some _ _).symm.trans H; with_reducible exact H2_) | with_reducible exact H | (rw [hy181]; exact H) | exact H
                      have Ny181 := Aside0.mk hy181
                      clear hy181
                      by_cases c27 : y178.length + y181.length < 3518437208883
                      · rw [if_pos c27] at H
                        have LMc27 := Aside0.mk c27
                        clear c27
                        obtain ⟨y186, hy186⟩ : ∃ y_ : List (S30), y_ = (y178 ++ y181) := ⟨_, rfl⟩
                        replace H : (some (y186, 0)) = some (r1, r2) := by first | (rw [hy186]; with_reducible exact H) | (have H2_ := (Option.bind_some _ _).symm.trans H; rw [hy186]; with_reducible exact H2_) | (have H2_ := (Option.bind_some _ _).symm.trans H; with_reducible exact H2_) | with_reducible exact H | (rw [hy186]; exact H) | exact H
                        have Ny186 := Aside0.mk hy186
                        clear hy186
                        simp only [Option.some.injEq, Prod.mk.injEq] at H
                        obtain ⟨rfl, rfl⟩ := H
                        have p161 : 0 ≤ (t157 : Int) := of_decide_eq_true (by first | (with_reducible assumption) | assumption)
                        have q161 : t157 < (l0.length : Int) := of_decide_eq_true (by first | (with_reducible assumption) | assumption)
                        obtain ⟨ad161, e161, hx161_0, hx161_1, hx161_2, hx161_3⟩ := at_T30 (Kd.V_reads' HO_0.out).2.2 t157 p161 q161
                        cases e161
                        replace p161 := eq_true p161
                        replace q161 := eq_true q161
                        go_wp2_with (first | ((with_reducible refine gate_dst (N := 59) rfl ?_); refine Kd.R_lit k30 _ 30 ?hg (N := 59) ?hd (xs := ([] : List (S30))) (inner := []) (ok := fun _ => True) (okp := fun _ => True) ?hr ?hp (fun _ hk => hk) trivial (Below.refl _ _) (Nat.le_refl _) (by simp) ?_; (case hd => rfl); (case hg => rfl); (case hr => first | (go_simp; done) | (go_simp; rfl)); (case hp => exact (Reps.none _ _)); intro v168 w28 ho29 hb hg_ hnew_; clear hg_ hnew_; (first | rw [← Ny167.out] at ho29 | (simp only [Int.reduceToNat] at ho29; rw [← Ny167.out] at ho29)); have n0_ := Aside0.mk (Kd.V_elder' (by (with_reducible repeat (first | apply Kd.V_alloc | apply Kd.V_drewN | apply Kd.V_drew)); exact HO_0.out) (Kd.R_base ho29) hb); have n1_ := Aside0.mk (Kd.R_lower (Kd.R_newM (M := fun k_ => (w.heap.size ≤ k_)) ho29 (below_size (by repeat (first | (with_reducible first | exact HB.out | apply below_alloc | apply pw_below_drewN | apply below_drew1) | exact HB.out))) (fun k_ h_ => h_)) (below_size (by repeat (first | (with_reducible first | exact HB.out | apply below_alloc | apply pw_below_drewN | apply below_drew1) | exact HB.out)))); have n2_ := Aside0.mk (below_step (by repeat (first | (with_reducible first | exact HB.out | apply below_alloc | apply pw_below_drewN | apply below_drew1) | exact HB.out)) hb); clear HO_0; clear HB; have HO_0 := n0_; have HO169 := n1_; have HB := n2_; clear n0_ n1_ n2_; clear hb ho29; have q30 : ((ji20) : Int) ≤ ((l0.length : Int) : Int) := of_decide_eq_true (by first | (with_reducible assumption) | assumption); obtain ⟨i030, hi030, _, hsz30, _⟩ := info_parts info30; have hroom30 : l0.length ≤ c0 := (Kd.V_reads' HO_0.out).2.1; have hC30 : Kd.F k30 _ _ (some ad161) l0.length l0 := (Kd.V_at (base := w.heap.size) HO_0.out).2.2; have hcut30 := cut_to (P := Try.prog) 22 30 .i64 Try.underlying22 hi030 (some ad161) l0.length c0 (ji20) (of_decide_eq_true (by first | (with_reducible assumption) | assumption)) q30 hroom30; have hr30 := Kd.F_take (m := ((ji20) : Int).toNat) hC30 (by omega); have hy30 : y170.length = ((ji20) : Int).toNat := (by rw [Ny170.out, List.length_take]; omega); rw [← Ny170.out] at hr30; rw [← hy30] at hcut30; have HO174 := Aside0.mk (show Kd.V k30 30 _ w.heap.size _ (.slice (some ad161) y170.length c0) y170 from Kd.V_mk (by omega) hr30); have HC174 := Aside0.mk (show y170.length ≤ c0 from by omega); clear hr30 hC30 hroom30 hi030 hsz30; have KY30 := Aside0.mk hy30; clear hy30; replace q30 := eq_true q30) | ((with_reducible refine gate_builtin (b := .append) (xs := #[.tmp 59, .tmp 63]) rfl ?_); at_builtin; refine Kd.R_append_rows k30 (w0 := w) w.heap.size rfl (.tmp 59) (.tmp 63) 22 30 (.agg #[(.int .i64 0), (.int .i64 0), (.string ⟨#[]⟩), (.bool false)]) 40 rfl Try.underlying22 info30 rfl (by decide) (by omega) v168 y167 y170 _ _ _ (fun k_ => (w.heap.size ≤ k_)) (fun _ => False) rfl rfl ?aO ?aR (fun _ _ h => h) (fun _ h => h.elim) ?aF ?aB ?aS ?aL ?_; (case aR => repeat (first | exact (Kd.V_reads' HO174.out).2.2 | (with_reducible refine Kd.C_alloc ?_ _) | (with_reducible refine Kd.C_drewN ?_ _) | (with_reducible refine Kd.C_drew ?_))); (case aB => exact (by repeat (first | (with_reducible first | exact HB.out | apply below_alloc | apply pw_below_drewN | apply below_drew1) | exact HB.out))); (case aF => exact (fun k_ hk => (Nat.le_trans (below_size (by repeat (first | (with_reducible first | exact HB.out | apply below_alloc | apply pw_below_drewN | apply below_drew1) | exact HB.out))) hk))); (case aO => exact (by (with_reducible repeat (first | apply Kd.R_alloc | apply Kd.R_drewN | apply Kd.R_drew)); exact Kd.R_mono HO169.out (fun _ hk => hk.1))); (case aS => exact (below_size (by repeat (first | (with_reducible first | exact HB.out | apply below_alloc | apply pw_below_drewN | apply below_drew1) | exact HB.out)))); (case aL => have := LMc23.out; omega); intro v176 w31 ho hb hg hat; rw [← Ny175.out] at ho; have n0_ := Aside0.mk (Kd.V_afterv (ok := (fun k_ => (P0_ k_ ∨ w.heap.size ≤ k_))) (by (with_reducible repeat (first | apply Kd.V_alloc | apply Kd.V_drewN | apply Kd.V_drew)); exact HO_0.out) hg hat); have n1_ := Aside0.mk (Kd.V_afterv (ok := (fun k_ => (P0_ k_ ∨ w.heap.size ≤ k_))) (by (with_reducible repeat (first | apply Kd.V_alloc | apply Kd.V_drewN | apply Kd.V_drew)); exact HO174.out) hg hat); have n2_ := Aside0.mk (hb); have n3_ := Aside0.mk (ho); clear HO_0; clear HO174; clear HB; clear HO169; have HO_0 := n0_; have HO174 := n1_; have HB := n2_; have HO177 := n3_; clear n0_ n1_ n2_ n3_; clear ho hb hg hat) | ((with_reducible refine gate_builtin (b := .append) (xs := #[.tmp 65, .tmp 70]) rfl ?_); at_builtin; refine Kd.R_append k30 (w0 := w) w.heap.size rfl (.tmp 65) (.tmp 70) 22 30 (.agg #[(.int .i64 0), (.int .i64 0), (.string ⟨#[]⟩), (.bool false)]) 40 rfl Try.underlying22 info30 rfl (by decide) (by omega) v176 y175 (⟨a1, a1, a2, false⟩ : S30) [.int .i64 a1, .int .i64 a1, .string a2, .bool false] (fun k_ => (w.heap.size ≤ k_)) (fun _ => False) rfl rfl ?aP (fun _ hk => hk.elim) ?aF ?aO ?aB ?aS ?aL ?_; (case aP => exact k30_mkM _ _ _ (⟨a1, a1, a2, false⟩ : S30)); (case aB => exact (by repeat (first | (with_reducible first | exact HB.out | apply below_alloc | apply pw_below_drewN | apply below_drew1) | exact HB.out))); (case aF => exact (fun k_ hk => (Nat.le_trans (below_size (by repeat (first | (with_reducible first | exact HB.out | apply below_alloc | apply pw_below_drewN | apply below_drew1) | exact HB.out))) hk))); (case aO => exact (by (with_reducible repeat (first | apply Kd.R_alloc | apply Kd.R_drewN | apply Kd.R_drew)); exact HO177.out)); (case aS => exact (below_size (by repeat (first | (with_reducible first | exact HB.out | apply below_alloc | apply pw_below_drewN | apply below_drew1) | exact HB.out)))); (case aL => have := LMc24.out; omega); intro v179 w32 ho hb hg hat; rw [← Ny178.out] at ho; have n0_ := Aside0.mk (Kd.V_afterv (ok := (fun k_ => (P0_ k_ ∨ w.heap.size ≤ k_))) (by (with_reducible repeat (first | apply Kd.V_alloc | apply Kd.V_drewN | apply Kd.V_drew)); exact HO_0.out) hg hat); have n1_ := Aside0.mk (Kd.V_afterv (ok := (fun k_ => (P0_ k_ ∨ w.heap.size ≤ k_))) (by (with_reducible repeat (first | apply Kd.V_alloc | apply Kd.V_drewN | apply Kd.V_drew)); exact HO174.out) hg hat); have n2_ := Aside0.mk (hb); have n3_ := Aside0.mk (ho); clear HO_0; clear HO174; clear HB; clear HO177; have HO_0 := n0_; have HO174 := n1_; have HB := n2_; have HO180 := n3_; clear n0_ n1_ n2_ n3_; clear ho hb hg hat; have q33 : ((ji20) : Int) ≤ ((l0.length : Int) : Int) := of_decide_eq_true (by first | (with_reducible assumption) | assumption); obtain ⟨i033, hi033, _, hsz33, _⟩ := info_parts info30; have hroom33 : l0.length ≤ c0 := (Kd.V_reads' HO_0.out).2.1; have hC33 : Kd.F k30 _ _ (some ad161) l0.length l0 := (Kd.V_at (base := w.heap.size) HO_0.out).2.2; have q033 : (0 : Int) ≤ ((ji20) : Int) := of_decide_eq_true (by first | (with_reducible assumption) | assumption); have hcut33 := cut_from (P := Try.prog) 22 30 .i64 Try.underlying22 hi033 4 hsz33 (some ad161) l0.length c0 (ji20) q033 q33; have hr33 := Kd.F_cut (m := ((ji20) : Int).toNat) (c := c0) hC33 (by omega) hroom33; obtain ⟨A33, hA33⟩ : ∃ A1, A1 = (if c0 = ((ji20) : Int).toNat then (some ad161) else ((some ad161) : Option Addr).map (·.add (((ji20) : Int).toNat * 4))) := ⟨_, rfl⟩; obtain ⟨c33, hc33⟩ : ∃ c1, c1 = c0 - ((ji20) : Int).toNat := ⟨_, rfl⟩; have hy33 : y181.length = l0.length - ((ji20) : Int).toNat := (by rw [Ny181.out, List.length_drop] <;> omega); rw [show (l0).drop ((ji20) : Int).toNat = y181 from Ny181.out.symm] at hr33; replace hr33 : Kd.F k30 _ _ A33 y181.length y181 := (by rw [hA33]; exact hr33); rw [← hy33, ← hA33, ← hc33] at hcut33; have HO185 := Aside0.mk (show Kd.V k30 30 _ w.heap.size _ (.slice A33 y181.length c33) y181 from Kd.V_mk (by rw [hy33, hc33]; exact Nat.sub_le_sub_right hroom33 _) hr33); have HC185 := Aside0.mk (show y181.length ≤ c33 from by rw [hy33, hc33]; exact Nat.sub_le_sub_right hroom33 _); clear hr33 hC33 hroom33 hi033 hsz33 hc33; have KY33 := Aside0.mk hy33; have KA33 := Aside0.mk hA33; clear hy33 hA33; replace q33 := eq_true q33) | ((with_reducible refine gate_builtin (b := .append) (xs := #[.tmp 72, .tmp 76]) rfl ?_); at_builtin; refine Kd.R_append_rows k30 (w0 := w) w.heap.size rfl (.tmp 72) (.tmp 76) 22 30 (.agg #[(.int .i64 0), (.int .i64 0), (.string ⟨#[]⟩), (.bool false)]) 40 rfl Try.underlying22 info30 rfl (by decide) (by omega) v179 y178 y181 _ _ _ (fun k_ => (w.heap.size ≤ k_)) (fun _ => False) rfl rfl ?aO ?aR (fun _ _ h => h) (fun _ h => h.elim) ?aF ?aB ?aS ?aL ?_; (case aR => repeat (first | exact (Kd.V_reads' HO185.out).2.2 | (with_reducible refine Kd.C_alloc ?_ _) | (with_reducible refine Kd.C_drewN ?_ _) | (with_reducible refine Kd.C_drew ?_))); (case aB => exact (by repeat (first | (with_reducible first | exact HB.out | apply below_alloc | apply pw_below_drewN | apply below_drew1) | exact HB.out))); (case aF => exact (fun k_ hk => (Nat.le_trans (below_size (by repeat (first | (with_reducible first | exact HB.out | apply below_alloc | apply pw_below_drewN | apply below_drew1) | exact HB.out))) hk))); (case aO => exact (by (with_reducible repeat (first | apply Kd.R_alloc | apply Kd.R_drewN | apply Kd.R_drew)); exact HO180.out)); (case aS => exact (below_size (by repeat (first | (with_reducible first | exact HB.out | apply below_alloc | apply pw_below_drewN | apply below_drew1) | exact HB.out)))); (case aL => have := LMc27.out; omega); intro v187 w34 ho hb hg hat; rw [← Ny186.out] at ho; have n0_ := Aside0.mk (Kd.V_afterv (ok := (fun k_ => (P0_ k_ ∨ w.heap.size ≤ k_))) (by (with_reducible repeat (first | apply Kd.V_alloc | apply Kd.V_drewN | apply Kd.V_drew)); exact HO_0.out) hg hat); have n1_ := Aside0.mk (Kd.V_afterv (ok := (fun k_ => (P0_ k_ ∨ w.heap.size ≤ k_))) (by (with_reducible repeat (first | apply Kd.V_alloc | apply Kd.V_drewN | apply Kd.V_drew)); exact HO174.out) hg hat); have n2_ := Aside0.mk (Kd.V_afterv (ok := (fun k_ => (P0_ k_ ∨ w.heap.size ≤ k_))) (by (with_reducible repeat (first | apply Kd.V_alloc | apply Kd.V_drewN | apply Kd.V_drew)); exact HO185.out) hg hat); have n3_ := Aside0.mk (hb); have n4_ := Aside0.mk (ho); clear HO_0; clear HO174; clear HO185; clear HB; clear HO180; have HO_0 := n0_; have HO174 := n1_; have HO185 := n2_; have HB := n3_; have HO188 := n4_; clear n0_ n1_ n2_ n3_ n4_; clear ho hb hg hat))
                        go_ret2
                        exact ⟨_, by first | rfl | (simp [errW_none, errW_some] <;> rfl) | (simp only [← hji20]; first | rfl | (simp [errW_none, errW_some] <;> rfl)) | (simp [*, errW_none, errW_some] <;> rfl), Kd.V_mono (Kd.R_V (by (with_reducible repeat (first | apply Kd.R_alloc | apply Kd.R_drewN | apply Kd.R_drew)); exact HO188.out)) (fun k_ hk => by first | exact ⟨(.inr (hk.1)), hk.2⟩ | exact (.inr (hk))), by repeat (first | (with_reducible first | exact HB.out | apply below_alloc | apply pw_below_drewN | apply below_drew1) | exact HB.out)⟩
                      · rw [if_neg c27] at H
                        exact absurd H (by simp)
                    · rw [if_neg c24] at H
                      exact absurd H (by simp)
                  · rw [if_neg c23] at H
                    exact absurd H (by simp)
                · rw [if_neg c22] at H
                  exact absurd H (by simp)
              · rw [if_neg c21] at H
                exact absurd H (by simp)
          · rw [if_neg c14] at H
            exact absurd H (by simp)
        · rw [if_neg c13] at H
          exact absurd H (by simp)

end Go.Proofs.Ytdiahlfhcbcceaa.P
