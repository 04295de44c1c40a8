-- Written for this claim by a program of this seat's (wip/tools), by way of the kit's printing program; not one of its printed files. Lean checks it.
import Derived.Test.YtdiahlfhcbcceaaPx0
import Derived.Test.YtdiahlfhcbcceaaPx7
import Derived.Test.YtdiahlfhcbcceaaPx10
import Derived.Test.YtdiahlfhcbcceaaPx25
import Derived.Test.YtdiahlfhcbcceaaPx27
namespace Go.Proofs.Ytdiahlfhcbcceaa.P
open Go.RowKit Go.Proofs.YtdiahlfhcbcceaaW.PrintWords Go.Proofs.YtdiahlfhcbcceaaW.PrintLast Go.Proofs.YtdiahlfhcbcceaaW.PrintMore
attribute [local go_sem] max2_int min2_int max_two min_two max_three min_three max_four min_four   -- for this text's walks alone
set_option linter.unusedVariables false
set_option linter.unusedSimpArgs false

/-! ### ogivelaw10_ChainStays: function 5 -/
mutual
def ogivelaw10_ChainStays.l0 : Nat → List (S51) → Int → Bool → List (S27) → Int → Int → Int → ByteArray → Bool → Option (Bool)
  | 0, _, _, _, _, _, _, _, _, _ => none
  | k + 1, x1, x2, x7, x8, x10, x337000, x337001, x337002, x337003 => if x10 < (x1.length : Int) then (ogivelaw10_ChainStays.j1 k x1 x2 x7 x8 x10 (decide (x10 < 60)) x337000 x337001 x337002 x337003) else (ogivelaw10_ChainStays.j1 k x1 x2 x7 x8 x10 false x337000 x337001 x337002 x337003)
def ogivelaw10_ChainStays.j1 : Nat → List (S51) → Int → Bool → List (S27) → Int → Bool → Int → Int → ByteArray → Bool → Option (Bool)
  | 0, _, _, _, _, _, _, _, _, _, _ => none
  | k + 1, x1, x2, x7, x8, x10, x31, x337000, x337001, x337002, x337003 => if x31 = true then (if 0 ≤ x10 then (if x10 < (x1.length : Int) then (if ((rd_T51 x1 x10).f1) = x2 then (if ((rd_T51 x1 x10).f0) = 2 then (ogivelaw10_ChainStays.j2 k x1 x2 x7 x8 x10 true x337000 x337001 x337002 x337003) else (if ((rd_T51 x1 x10).f1) = x337000 then (if ((rd_T51 x1 x10).f0) = 4 then (if x337003 = true then (ogivelaw10_ChainStays.j2 k x1 x2 x7 x8 x10 (((rd_T51 x1 x10).f0) == 2) x337000 x337001 x337002 x337003) else (ogivelaw10_ChainStays.j2 k x1 x2 x7 x8 x10 true x337000 x337001 x337002 x337003)) else (ogivelaw10_ChainStays.j2 k x1 x2 x7 x8 x10 (((rd_T51 x1 x10).f0) == 2) x337000 x337001 x337002 x337003)) else (ogivelaw10_ChainStays.j2 k x1 x2 x7 x8 x10 false x337000 x337001 x337002 x337003))) else (if ((rd_T51 x1 x10).f1) = x337000 then (if ((rd_T51 x1 x10).f0) = 4 then (if x337003 = true then (ogivelaw10_ChainStays.j2 k x1 x2 x7 x8 x10 (((rd_T51 x1 x10).f0) == 2) x337000 x337001 x337002 x337003) else (ogivelaw10_ChainStays.j2 k x1 x2 x7 x8 x10 true x337000 x337001 x337002 x337003)) else (ogivelaw10_ChainStays.j2 k x1 x2 x7 x8 x10 (((rd_T51 x1 x10).f0) == 2) x337000 x337001 x337002 x337003)) else (ogivelaw10_ChainStays.j2 k x1 x2 x7 x8 x10 false x337000 x337001 x337002 x337003))) else (none)) else (none)) else (some x7)
def ogivelaw10_ChainStays.j2 : Nat → List (S51) → Int → Bool → List (S27) → Int → Bool → Int → Int → ByteArray → Bool → Option (Bool)
  | 0, _, _, _, _, _, _, _, _, _, _ => none
  | k + 1, x1, x2, x7, x8, x10, x79, x337000, x337001, x337002, x337003 => if x79 = true then (ogivelaw10_ChainStays.l0 k x1 x2 x7 x8 (wrap64 (x10 + 1)) x337000 x337001 x337002 x337003) else (if 0 ≤ x10 then (if x10 < (x1.length : Int) then ((ogivelaw10_do.f k x8 ((rd_T51 x1 x10).f0) ((rd_T51 x1 x10).f1) ((rd_T51 x1 x10).f2)).bind fun t348 => ((chain_Read.f k t348 x2).bind fun bt351 => (if bt351.2.1 = x337000 then (if bt351.2.2.2.1.toList = x337002.toList then (ogivelaw10_ChainStays.l0 k x1 x2 x7 t348 (wrap64 (x10 + 1)) x337000 x337001 x337002 x337003) else (some false)) else (some false)))) else (none)) else (none))
end
def ogivelaw10_ChainStays.f (k : Nat) (l0 : List (S51)) (l1 : List (S51)) (a2 : Int) : Option (Bool) := (ogivelaw10_awake.f k).bind fun t325 => (if a2 < 1 then (some t325) else ((ogivelaw10_run.f k l0).bind fun t326 => ((chain_Read.f k t326 a2).bind fun bt329 => (ogivelaw10_ChainStays.l0 k l1 a2 t325 bt329.1 0 bt329.2.1 bt329.2.2.1 bt329.2.2.2.1 bt329.2.2.2.2))))
theorem ogivelaw10_ChainStays.mono_l : ∀ k, (∀ y0 y1 y2 y3 y4 y5 y6 y7 y8, LeO (ogivelaw10_ChainStays.l0 k y0 y1 y2 y3 y4 y5 y6 y7 y8) (ogivelaw10_ChainStays.l0 (k + 1) y0 y1 y2 y3 y4 y5 y6 y7 y8)) ∧ (∀ y0 y1 y2 y3 y4 y5 y6 y7 y8 y9, LeO (ogivelaw10_ChainStays.j1 k y0 y1 y2 y3 y4 y5 y6 y7 y8 y9) (ogivelaw10_ChainStays.j1 (k + 1) y0 y1 y2 y3 y4 y5 y6 y7 y8 y9)) ∧ (∀ y0 y1 y2 y3 y4 y5 y6 y7 y8 y9, LeO (ogivelaw10_ChainStays.j2 k y0 y1 y2 y3 y4 y5 y6 y7 y8 y9) (ogivelaw10_ChainStays.j2 (k + 1) y0 y1 y2 y3 y4 y5 y6 y7 y8 y9))
  | 0 => ⟨fun _ _ _ _ _ _ _ _ _ r h => by simp [ogivelaw10_ChainStays.l0] at h, fun _ _ _ _ _ _ _ _ _ _ r h => by simp [ogivelaw10_ChainStays.j1] at h, fun _ _ _ _ _ _ _ _ _ _ r h => by simp [ogivelaw10_ChainStays.j2] at h⟩
  | k + 1 => by
    obtain ⟨ih0, ih1, ih2⟩ := ogivelaw10_ChainStays.mono_l k
    refine ⟨?_, ?_, ?_⟩
    · intro y0 y1 y2 y3 y4 y5 y6 y7 y8
      unfold ogivelaw10_ChainStays.l0
      repeat' first
      | (with_reducible exact ih0 _ _ _ _ _ _ _ _ _)
      | (with_reducible exact ih1 _ _ _ _ _ _ _ _ _ _)
      | (with_reducible exact ih2 _ _ _ _ _ _ _ _ _ _)
      | (with_reducible exact chain_Read.mono _ _ _)
      | (with_reducible exact ogivelaw10_awake.mono _)
      | (with_reducible exact ogivelaw10_do.mono _ _ _ _ _)
      | (with_reducible exact ogivelaw10_run.mono _ _)
      | (with_reducible exact LeO.refl _)
      | (with_reducible exact LeO.none _)
      | (with_reducible refine LeO.ite ?_ ?_)
      | (with_reducible refine LeO.bind ?_ (fun _ => ?_))
      | exact ih0 _ _ _ _ _ _ _ _ _
      | exact ih1 _ _ _ _ _ _ _ _ _ _
      | exact ih2 _ _ _ _ _ _ _ _ _ _
      | exact chain_Read.mono _ _ _
      | exact ogivelaw10_awake.mono _
      | exact ogivelaw10_do.mono _ _ _ _ _
      | exact ogivelaw10_run.mono _ _
      | exact LeO.none _
      | refine LeO.ite ?_ ?_
      | refine LeO.bind ?_ (fun _ => ?_)
    · intro y0 y1 y2 y3 y4 y5 y6 y7 y8 y9
      unfold ogivelaw10_ChainStays.j1
      repeat' first
      | (with_reducible exact ih0 _ _ _ _ _ _ _ _ _)
      | (with_reducible exact ih1 _ _ _ _ _ _ _ _ _ _)
      | (with_reducible exact ih2 _ _ _ _ _ _ _ _ _ _)
      | (with_reducible exact chain_Read.mono _ _ _)
      | (with_reducible exact ogivelaw10_awake.mono _)
      | (with_reducible exact ogivelaw10_do.mono _ _ _ _ _)
      | (with_reducible exact ogivelaw10_run.mono _ _)
      | (with_reducible exact LeO.refl _)
      | (with_reducible exact LeO.none _)
      | (with_reducible refine LeO.ite ?_ ?_)
      | (with_reducible refine LeO.bind ?_ (fun _ => ?_))
      | exact ih0 _ _ _ _ _ _ _ _ _
      | exact ih1 _ _ _ _ _ _ _ _ _ _
      | exact ih2 _ _ _ _ _ _ _ _ _ _
      | exact chain_Read.mono _ _ _
      | exact ogivelaw10_awake.mono _
      | exact ogivelaw10_do.mono _ _ _ _ _
      | exact ogivelaw10_run.mono _ _
      | exact LeO.none _
      | refine LeO.ite ?_ ?_
      | refine LeO.bind ?_ (fun _ => ?_)
    · intro y0 y1 y2 y3 y4 y5 y6 y7 y8 y9
      unfold ogivelaw10_ChainStays.j2
      repeat' first
      | (with_reducible exact ih0 _ _ _ _ _ _ _ _ _)
      | (with_reducible exact ih1 _ _ _ _ _ _ _ _ _ _)
      | (with_reducible exact ih2 _ _ _ _ _ _ _ _ _ _)
      | (with_reducible exact chain_Read.mono _ _ _)
      | (with_reducible exact ogivelaw10_awake.mono _)
      | (with_reducible exact ogivelaw10_do.mono _ _ _ _ _)
      | (with_reducible exact ogivelaw10_run.mono _ _)
      | (with_reducible exact LeO.refl _)
      | (with_reducible exact LeO.none _)
      | (with_reducible refine LeO.ite ?_ ?_)
      | (with_reducible refine LeO.bind ?_ (fun _ => ?_))
      | exact ih0 _ _ _ _ _ _ _ _ _
      | exact ih1 _ _ _ _ _ _ _ _ _ _
      | exact ih2 _ _ _ _ _ _ _ _ _ _
      | exact chain_Read.mono _ _ _
      | exact ogivelaw10_awake.mono _
      | exact ogivelaw10_do.mono _ _ _ _ _
      | exact ogivelaw10_run.mono _ _
      | exact LeO.none _
      | refine LeO.ite ?_ ?_
      | refine LeO.bind ?_ (fun _ => ?_)
theorem ogivelaw10_ChainStays.mono : ∀ a0 a1 a2 k, LeO (ogivelaw10_ChainStays.f k a0 a1 a2) (ogivelaw10_ChainStays.f (k + 1) a0 a1 a2) := by
  intro a0 a1 a2 k
  obtain ⟨ih0, ih1, ih2⟩ := ogivelaw10_ChainStays.mono_l k
  unfold ogivelaw10_ChainStays.f
  repeat' first
      | (with_reducible exact ih0 _ _ _ _ _ _ _ _ _)
      | (with_reducible exact ih1 _ _ _ _ _ _ _ _ _ _)
      | (with_reducible exact ih2 _ _ _ _ _ _ _ _ _ _)
      | (with_reducible exact chain_Read.mono _ _ _)
      | (with_reducible exact ogivelaw10_awake.mono _)
      | (with_reducible exact ogivelaw10_do.mono _ _ _ _ _)
      | (with_reducible exact ogivelaw10_run.mono _ _)
      | (with_reducible exact LeO.refl _)
      | (with_reducible exact LeO.none _)
      | (with_reducible refine LeO.ite ?_ ?_)
      | (with_reducible refine LeO.bind ?_ (fun _ => ?_))
      | exact ih0 _ _ _ _ _ _ _ _ _
      | exact ih1 _ _ _ _ _ _ _ _ _ _
      | exact ih2 _ _ _ _ _ _ _ _ _ _
      | exact chain_Read.mono _ _ _
      | exact ogivelaw10_awake.mono _
      | exact ogivelaw10_do.mono _ _ _ _ _
      | exact ogivelaw10_run.mono _ _
      | exact LeO.none _
      | refine LeO.ite ?_ ?_
      | refine LeO.bind ?_ (fun _ => ?_)
set_option maxHeartbeats 8000000 in
set_option maxRecDepth 100000 in
theorem ogivelaw10_ChainStays.calls (k : Nat) (A0 : Option Addr) (c0 : Nat) (l0 : List (S51)) (A1 : Option Addr) (c1 : Nat) (l1 : List (S51)) (a2 : Int) (r : Bool) (w : World) (hr0 : Kd.C k51 w A0 l0.length l0) (hc0 : l0.length ≤ c0) (hr1 : Kd.C k51 w A1 l1.length l1) (hc1 : l1.length ≤ c1) (h : ogivelaw10_ChainStays.f k l0 l1 a2 = some r) :
    Calls Try.prog 5 #[.slice A0 l0.length c0, .slice A1 l1.length c1, .int .i64 a2] w fun e w' => e = .returned (.bool r) ∧ Below w.heap.size w w' := by
  have hu27 := Try.underlying27
  have hu51 := Try.underlying51
  have HR0 := Aside0.mk hr0
  have HC0 := Aside0.mk hc0
  clear hr0 hc0
  have HR1 := Aside0.mk hr1
  have HC1 := Aside0.mk hc1
  clear hr1 hc1
  have HB := Aside0.mk (Below.refl w.heap.size w)
  have H : ((ogivelaw10_awake.f k).bind fun t325 => (if a2 < 1 then (some t325) else ((ogivelaw10_run.f k l0).bind fun t326 => ((chain_Read.f k t326 a2).bind fun bt329 => (ogivelaw10_ChainStays.l0 k l1 a2 t325 bt329.1 0 bt329.2.1 bt329.2.2.1 bt329.2.2.2.1 bt329.2.2.2.2))))) = some r := h
  clear h
  replace H := Option.bind_eq_some_iff.mp H
  obtain ⟨t325, A40, H⟩ := H
  replace H : (if a2 < 1 then (some t325) else ((ogivelaw10_run.f k l0).bind fun t326 => ((chain_Read.f k t326 a2).bind fun bt329 => (ogivelaw10_ChainStays.l0 k l1 a2 t325 bt329.1 0 bt329.2.1 bt329.2.2.1 bt329.2.2.2.1 bt329.2.2.2.2)))) = some r := H
  have A4 := Aside0.mk A40
  clear A40
  by_cases c5 : a2 < 1
  · rw [if_pos c5] at H
    have c5b0 : decide (a2 < 1) = true := decide_eq_true c5
    clear c5
    obtain rfl := Option.some.inj H
    go_enter Try.func5, Try.ntmps5
    go_wp2_with (first | (go_at_call 9; (with_reducible refine (ogivelaw10_awake.calls k  t325 _ A4.out).mono ?_); rintro e w6 ⟨rfl, hb⟩; have n0_ := Aside0.mk (below_step (by repeat (first | (with_reducible first | exact HB.out | apply below_alloc | apply pw_below_drewN | apply below_drew1) | exact HB.out)) hb); clear HB; have HB := n0_; clear n0_; (try clear hb); (try clear hb2); (try clear hk); (try clear hi)))
    repeat (go_quiet (first | (go_at_call 9; (with_reducible refine (ogivelaw10_awake.calls k  t325 _ A4.out).mono ?_); rintro e w6 ⟨rfl, hb⟩; have n0_ := Aside0.mk (below_step (by repeat (first | (with_reducible first | exact HB.out | apply below_alloc | apply pw_below_drewN | apply below_drew1) | exact HB.out)) hb); clear HB; have HB := n0_; clear n0_; (try clear hb); (try clear hb2); (try clear hk); (try clear hi))); try go_wp2_with (first | (go_at_call 9; (with_reducible refine (ogivelaw10_awake.calls k  t325 _ A4.out).mono ?_); rintro e w6 ⟨rfl, hb⟩; have n0_ := Aside0.mk (below_step (by repeat (first | (with_reducible first | exact HB.out | apply below_alloc | apply pw_below_drewN | apply below_drew1) | exact HB.out)) hb); clear HB; have HB := n0_; clear n0_; (try clear hb); (try clear hb2); (try clear hk); (try clear hi))))
    go_ret
    exact ⟨by first | rfl | (simp [errW_none, errW_some] <;> rfl) | (simp [*, errW_none, errW_some] <;> rfl), by repeat (first | (with_reducible first | exact HB.out | apply below_alloc | apply pw_below_drewN | apply below_drew1) | exact HB.out)⟩
  · rw [if_neg c5] at H
    have c5b0 : decide (a2 < 1) = false := decide_eq_false c5
    clear c5
    replace H := Option.bind_eq_some_iff.mp H
    obtain ⟨t326, A70, H⟩ := H
    replace H : ((chain_Read.f k t326 a2).bind fun bt329 => (ogivelaw10_ChainStays.l0 k l1 a2 t325 bt329.1 0 bt329.2.1 bt329.2.2.1 bt329.2.2.2.1 bt329.2.2.2.2)) = some r := H
    have A7 := Aside0.mk A70
    clear A70
    replace H := Option.bind_eq_some_iff.mp H
    obtain ⟨⟨t329, t332, t333, t334, t335⟩, A80, H⟩ := H
    replace H : (ogivelaw10_ChainStays.l0 k l1 a2 t325 t329 0 t332 t333 t334 t335) = some r := H
    have A8 := Aside0.mk A80
    clear A80
    have H' := Aside0.mk H
    clear H
    go_enter Try.func5, Try.ntmps5
    go_wp2_with (first | (go_at_call 9; (with_reducible refine (ogivelaw10_awake.calls k  t325 _ A4.out).mono ?_); rintro e w9 ⟨rfl, hb⟩; have n0_ := Aside0.mk (below_step (by repeat (first | (with_reducible first | exact HB.out | apply below_alloc | apply pw_below_drewN | apply below_drew1) | exact HB.out)) hb); clear HB; have HB := n0_; clear n0_; (try clear hb); (try clear hb2); (try clear hk); (try clear hi)) | (go_at_call 27; (with_reducible refine (ogivelaw10_run.calls k _ _ l0 t326 _ ?side1 ?side2 A7.out).mono ?_); (case side1 => repeat (first | exact (Kd.C_below HR0.out HB.out) | (with_reducible refine Kd.C_alloc ?_ _) | (with_reducible refine Kd.C_drewN ?_ _) | (with_reducible refine Kd.C_drew ?_))); (case side2 => exact HC0.out); rintro e w10 ⟨v327, rfl, ho0, hb⟩; have n0_ := Aside0.mk (Kd.V_lower (Kd.V_mono (ok' := fun k_ => True) ho0 (fun k_ hk_ => trivial)) (below_size (by repeat (first | (with_reducible first | exact HB.out | apply below_alloc | apply pw_below_drewN | apply below_drew1) | exact HB.out)))); have n1_ := Aside0.mk (below_step (by repeat (first | (with_reducible first | exact HB.out | apply below_alloc | apply pw_below_drewN | apply below_drew1) | exact HB.out)) hb); clear HB; have HO328 := n0_; have HB := n1_; clear n0_ n1_; (try clear hb); (try clear hb2); (try clear hk); (try clear hi); (try clear ho0); obtain ⟨Ao11, co11, eo11⟩ := Kd.V_slice HO328.out; subst eo11) | (go_at_call 11; (with_reducible refine (chain_Read.calls k (fun k_ => True) _ _ t326 a2 t329 t332 t333 t334 t335 _ ?side1 A8.out).mono ?_); (case side1 => exact HO328.out); rintro e w12 ⟨v330, rfl, ho0, hb⟩; have n0_ := Aside0.mk (Kd.V_below (by (with_reducible repeat (first | apply Kd.V_alloc | apply Kd.V_drewN | apply Kd.V_drew)); exact HO328.out) hb); have n1_ := Aside0.mk (Kd.V_lower (Kd.V_mono (ok' := fun k_ => True) ho0 (fun k_ hk_ => trivial)) (below_size (by repeat (first | (with_reducible first | exact HB.out | apply below_alloc | apply pw_below_drewN | apply below_drew1) | exact HB.out)))); have n2_ := Aside0.mk (below_step (by repeat (first | (with_reducible first | exact HB.out | apply below_alloc | apply pw_below_drewN | apply below_drew1) | exact HB.out)) hb); clear HO328; clear HB; have HO328 := n0_; have HO331 := n1_; have HB := n2_; clear n0_ n1_ n2_; (try clear hb); (try clear hb2); (try clear hk); (try clear hi); (try clear ho0)) | ((with_reducible refine gate_dst (N := 9) rfl ?_); refine box_event ?hg (N := 9) ?hd (cs := #[.int .i64 0, .int .i64 0, .string (⟨#[]⟩ : ByteArray), .bool false]) (t := 27) ?hr ?_; (case hd => rfl); (case hg => rfl); (case hr => first | (go_simp; done) | (go_simp; rfl)); intro gb336 hg w13 hbox hb; have n0_ := Aside0.mk (Kd.V_below (Kd.V_elderB (by (with_reducible repeat (first | apply Kd.V_alloc | apply Kd.V_drewN | apply Kd.V_drew)); exact HO328.out) gb336 (Nat.le_of_eq hg.symm)) hb); have n1_ := Aside0.mk (Kd.V_below (Kd.V_elderB (by (with_reducible repeat (first | apply Kd.V_alloc | apply Kd.V_drewN | apply Kd.V_drew)); exact HO331.out) gb336 (Nat.le_of_eq hg.symm)) hb); have n2_ := Aside0.mk (below_step (by repeat (first | (with_reducible first | exact HB.out | apply below_alloc | apply pw_below_drewN | apply below_drew1) | exact HB.out)) hb); have n3_ := Aside0.mk (hbox); have n4_ := Aside0.mk ((by rw [hg]; exact (below_size (by repeat (first | (with_reducible first | exact HB.out | apply below_alloc | apply pw_below_drewN | apply below_drew1) | exact HB.out))) : w.heap.size ≤ gb336)); have n5_ := Aside0.mk ((by rw [hg]; exact (below_size (by repeat (first | (with_reducible first | exact HB.out | apply below_alloc | apply pw_below_drewN | apply below_drew1) | exact HB.out))) : w.heap.size ≤ gb336)); clear HO328; clear HO331; clear HB; have HO328 := n0_; have HO331 := n1_; have HB := n2_; have BK336 := n3_; have GW336 := n4_; have GE336 := n5_; clear n0_ n1_ n2_ n3_ n4_ n5_; clear hb hbox hg; have hcz14_0 : w13.cell? ⟨gb336, 0, none⟩ = some (.int .i64 0) := (blk_cell BK336.out 0).trans rfl; have hcz14_1 : w13.cell? ⟨gb336, 1, none⟩ = some (.int .i64 0) := (blk_cell BK336.out 1).trans rfl; have hcz14_2 : w13.cell? ⟨gb336, 2, none⟩ = some (.string (⟨#[]⟩ : ByteArray)) := (blk_cell BK336.out 2).trans rfl; have hcz14_3 : w13.cell? ⟨gb336, 3, none⟩ = some (.bool false) := (blk_cell BK336.out 3).trans rfl; have hfz14_0 := blk_frozen BK336.out 0; have hfz14_1 := blk_frozen BK336.out 1; have hfz14_2 := blk_frozen BK336.out 2; have hfz14_3 := blk_frozen BK336.out 3))
    repeat (go_quiet (first | (go_at_call 9; (with_reducible refine (ogivelaw10_awake.calls k  t325 _ A4.out).mono ?_); rintro e w9 ⟨rfl, hb⟩; have n0_ := Aside0.mk (below_step (by repeat (first | (with_reducible first | exact HB.out | apply below_alloc | apply pw_below_drewN | apply below_drew1) | exact HB.out)) hb); clear HB; have HB := n0_; clear n0_; (try clear hb); (try clear hb2); (try clear hk); (try clear hi)) | (go_at_call 27; (with_reducible refine (ogivelaw10_run.calls k _ _ l0 t326 _ ?side1 ?side2 A7.out).mono ?_); (case side1 => repeat (first | exact (Kd.C_below HR0.out HB.out) | (with_reducible refine Kd.C_alloc ?_ _) | (with_reducible refine Kd.C_drewN ?_ _) | (with_reducible refine Kd.C_drew ?_))); (case side2 => exact HC0.out); rintro e w10 ⟨v327, rfl, ho0, hb⟩; have n0_ := Aside0.mk (Kd.V_lower (Kd.V_mono (ok' := fun k_ => True) ho0 (fun k_ hk_ => trivial)) (below_size (by repeat (first | (with_reducible first | exact HB.out | apply below_alloc | apply pw_below_drewN | apply below_drew1) | exact HB.out)))); have n1_ := Aside0.mk (below_step (by repeat (first | (with_reducible first | exact HB.out | apply below_alloc | apply pw_below_drewN | apply below_drew1) | exact HB.out)) hb); clear HB; have HO328 := n0_; have HB := n1_; clear n0_ n1_; (try clear hb); (try clear hb2); (try clear hk); (try clear hi); (try clear ho0); obtain ⟨Ao11, co11, eo11⟩ := Kd.V_slice HO328.out; subst eo11) | (go_at_call 11; (with_reducible refine (chain_Read.calls k (fun k_ => True) _ _ t326 a2 t329 t332 t333 t334 t335 _ ?side1 A8.out).mono ?_); (case side1 => exact HO328.out); rintro e w12 ⟨v330, rfl, ho0, hb⟩; have n0_ := Aside0.mk (Kd.V_below (by (with_reducible repeat (first | apply Kd.V_alloc | apply Kd.V_drewN | apply Kd.V_drew)); exact HO328.out) hb); have n1_ := Aside0.mk (Kd.V_lower (Kd.V_mono (ok' := fun k_ => True) ho0 (fun k_ hk_ => trivial)) (below_size (by repeat (first | (with_reducible first | exact HB.out | apply below_alloc | apply pw_below_drewN | apply below_drew1) | exact HB.out)))); have n2_ := Aside0.mk (below_step (by repeat (first | (with_reducible first | exact HB.out | apply below_alloc | apply pw_below_drewN | apply below_drew1) | exact HB.out)) hb); clear HO328; clear HB; have HO328 := n0_; have HO331 := n1_; have HB := n2_; clear n0_ n1_ n2_; (try clear hb); (try clear hb2); (try clear hk); (try clear hi); (try clear ho0)) | ((with_reducible refine gate_dst (N := 9) rfl ?_); refine box_event ?hg (N := 9) ?hd (cs := #[.int .i64 0, .int .i64 0, .string (⟨#[]⟩ : ByteArray), .bool false]) (t := 27) ?hr ?_; (case hd => rfl); (case hg => rfl); (case hr => first | (go_simp; done) | (go_simp; rfl)); intro gb336 hg w13 hbox hb; have n0_ := Aside0.mk (Kd.V_below (Kd.V_elderB (by (with_reducible repeat (first | apply Kd.V_alloc | apply Kd.V_drewN | apply Kd.V_drew)); exact HO328.out) gb336 (Nat.le_of_eq hg.symm)) hb); have n1_ := Aside0.mk (Kd.V_below (Kd.V_elderB (by (with_reducible repeat (first | apply Kd.V_alloc | apply Kd.V_drewN | apply Kd.V_drew)); exact HO331.out) gb336 (Nat.le_of_eq hg.symm)) hb); have n2_ := Aside0.mk (below_step (by repeat (first | (with_reducible first | exact HB.out | apply below_alloc | apply pw_below_drewN | apply below_drew1) | exact HB.out)) hb); have n3_ := Aside0.mk (hbox); have n4_ := Aside0.mk ((by rw [hg]; exact (below_size (by repeat (first | (with_reducible first | exact HB.out | apply below_alloc | apply pw_below_drewN | apply below_drew1) | exact HB.out))) : w.heap.size ≤ gb336)); have n5_ := Aside0.mk ((by rw [hg]; exact (below_size (by repeat (first | (with_reducible first | exact HB.out | apply below_alloc | apply pw_below_drewN | apply below_drew1) | exact HB.out))) : w.heap.size ≤ gb336)); clear HO328; clear HO331; clear HB; have HO328 := n0_; have HO331 := n1_; have HB := n2_; have BK336 := n3_; have GW336 := n4_; have GE336 := n5_; clear n0_ n1_ n2_ n3_ n4_ n5_; clear hb hbox hg; have hcz14_0 : w13.cell? ⟨gb336, 0, none⟩ = some (.int .i64 0) := (blk_cell BK336.out 0).trans rfl; have hcz14_1 : w13.cell? ⟨gb336, 1, none⟩ = some (.int .i64 0) := (blk_cell BK336.out 1).trans rfl; have hcz14_2 : w13.cell? ⟨gb336, 2, none⟩ = some (.string (⟨#[]⟩ : ByteArray)) := (blk_cell BK336.out 2).trans rfl; have hcz14_3 : w13.cell? ⟨gb336, 3, none⟩ = some (.bool false) := (blk_cell BK336.out 3).trans rfl; have hfz14_0 := blk_frozen BK336.out 0; have hfz14_1 := blk_frozen BK336.out 1; have hfz14_2 := blk_frozen BK336.out 2; have hfz14_3 := blk_frozen BK336.out 3)); try go_wp2_with (first | (go_at_call 9; (with_reducible refine (ogivelaw10_awake.calls k  t325 _ A4.out).mono ?_); rintro e w9 ⟨rfl, hb⟩; have n0_ := Aside0.mk (below_step (by repeat (first | (with_reducible first | exact HB.out | apply below_alloc | apply pw_below_drewN | apply below_drew1) | exact HB.out)) hb); clear HB; have HB := n0_; clear n0_; (try clear hb); (try clear hb2); (try clear hk); (try clear hi)) | (go_at_call 27; (with_reducible refine (ogivelaw10_run.calls k _ _ l0 t326 _ ?side1 ?side2 A7.out).mono ?_); (case side1 => repeat (first | exact (Kd.C_below HR0.out HB.out) | (with_reducible refine Kd.C_alloc ?_ _) | (with_reducible refine Kd.C_drewN ?_ _) | (with_reducible refine Kd.C_drew ?_))); (case side2 => exact HC0.out); rintro e w10 ⟨v327, rfl, ho0, hb⟩; have n0_ := Aside0.mk (Kd.V_lower (Kd.V_mono (ok' := fun k_ => True) ho0 (fun k_ hk_ => trivial)) (below_size (by repeat (first | (with_reducible first | exact HB.out | apply below_alloc | apply pw_below_drewN | apply below_drew1) | exact HB.out)))); have n1_ := Aside0.mk (below_step (by repeat (first | (with_reducible first | exact HB.out | apply below_alloc | apply pw_below_drewN | apply below_drew1) | exact HB.out)) hb); clear HB; have HO328 := n0_; have HB := n1_; clear n0_ n1_; (try clear hb); (try clear hb2); (try clear hk); (try clear hi); (try clear ho0); obtain ⟨Ao11, co11, eo11⟩ := Kd.V_slice HO328.out; subst eo11) | (go_at_call 11; (with_reducible refine (chain_Read.calls k (fun k_ => True) _ _ t326 a2 t329 t332 t333 t334 t335 _ ?side1 A8.out).mono ?_); (case side1 => exact HO328.out); rintro e w12 ⟨v330, rfl, ho0, hb⟩; have n0_ := Aside0.mk (Kd.V_below (by (with_reducible repeat (first | apply Kd.V_alloc | apply Kd.V_drewN | apply Kd.V_drew)); exact HO328.out) hb); have n1_ := Aside0.mk (Kd.V_lower (Kd.V_mono (ok' := fun k_ => True) ho0 (fun k_ hk_ => trivial)) (below_size (by repeat (first | (with_reducible first | exact HB.out | apply below_alloc | apply pw_below_drewN | apply below_drew1) | exact HB.out)))); have n2_ := Aside0.mk (below_step (by repeat (first | (with_reducible first | exact HB.out | apply below_alloc | apply pw_below_drewN | apply below_drew1) | exact HB.out)) hb); clear HO328; clear HB; have HO328 := n0_; have HO331 := n1_; have HB := n2_; clear n0_ n1_ n2_; (try clear hb); (try clear hb2); (try clear hk); (try clear hi); (try clear ho0)) | ((with_reducible refine gate_dst (N := 9) rfl ?_); refine box_event ?hg (N := 9) ?hd (cs := #[.int .i64 0, .int .i64 0, .string (⟨#[]⟩ : ByteArray), .bool false]) (t := 27) ?hr ?_; (case hd => rfl); (case hg => rfl); (case hr => first | (go_simp; done) | (go_simp; rfl)); intro gb336 hg w13 hbox hb; have n0_ := Aside0.mk (Kd.V_below (Kd.V_elderB (by (with_reducible repeat (first | apply Kd.V_alloc | apply Kd.V_drewN | apply Kd.V_drew)); exact HO328.out) gb336 (Nat.le_of_eq hg.symm)) hb); have n1_ := Aside0.mk (Kd.V_below (Kd.V_elderB (by (with_reducible repeat (first | apply Kd.V_alloc | apply Kd.V_drewN | apply Kd.V_drew)); exact HO331.out) gb336 (Nat.le_of_eq hg.symm)) hb); have n2_ := Aside0.mk (below_step (by repeat (first | (with_reducible first | exact HB.out | apply below_alloc | apply pw_below_drewN | apply below_drew1) | exact HB.out)) hb); have n3_ := Aside0.mk (hbox); have n4_ := Aside0.mk ((by rw [hg]; exact (below_size (by repeat (first | (with_reducible first | exact HB.out | apply below_alloc | apply pw_below_drewN | apply below_drew1) | exact HB.out))) : w.heap.size ≤ gb336)); have n5_ := Aside0.mk ((by rw [hg]; exact (below_size (by repeat (first | (with_reducible first | exact HB.out | apply below_alloc | apply pw_below_drewN | apply below_drew1) | exact HB.out))) : w.heap.size ≤ gb336)); clear HO328; clear HO331; clear HB; have HO328 := n0_; have HO331 := n1_; have HB := n2_; have BK336 := n3_; have GW336 := n4_; have GE336 := n5_; clear n0_ n1_ n2_ n3_ n4_ n5_; clear hb hbox hg; have hcz14_0 : w13.cell? ⟨gb336, 0, none⟩ = some (.int .i64 0) := (blk_cell BK336.out 0).trans rfl; have hcz14_1 : w13.cell? ⟨gb336, 1, none⟩ = some (.int .i64 0) := (blk_cell BK336.out 1).trans rfl; have hcz14_2 : w13.cell? ⟨gb336, 2, none⟩ = some (.string (⟨#[]⟩ : ByteArray)) := (blk_cell BK336.out 2).trans rfl; have hcz14_3 : w13.cell? ⟨gb336, 3, none⟩ = some (.bool false) := (blk_cell BK336.out 3).trans rfl; have hfz14_0 := blk_frozen BK336.out 0; have hfz14_1 := blk_frozen BK336.out 1; have hfz14_2 := blk_frozen BK336.out 2; have hfz14_3 := blk_frozen BK336.out 3)))
    go_loopg [8, 10] k (fun kq v8 v10 w' => ∃ (x8_1 : List (S27)) (x10_1 : Int), v10 = .int .i64 x10_1 ∧ Aside0 (ogivelaw10_ChainStays.l0 kq l1 a2 t325 x8_1 x10_1 t332 t333 t334 t335 = some r) ∧ Aside0 (kq ≤ k) ∧ Aside0 (Kd.V k27 27 w' w.heap.size (fun k_ => k_ ≠ gb336) v8 x8_1) ∧ Aside0 (w'.heap[gb336]? = some (.cells #[.int .i64 t332, .int .i64 t333, .string t334, .bool t335] 27 (0, 0))) ∧ Aside0 (Below w.heap.size w w'))
    case atStart => exact ⟨(t329), (0), (by first | rfl | (simp; done) | (simp [*]; done)), H', ⟨Nat.le_refl _⟩, ⟨by (with_reducible repeat (first | apply Kd.V_alloc | apply Kd.V_drewN | apply Kd.V_drew)); exact Kd.V_mono (Kd.V_far (p := ⟨gb336, 3, none⟩) (Kd.V_far (p := ⟨gb336, 2, none⟩) (Kd.V_far (p := ⟨gb336, 1, none⟩) (Kd.V_far (p := ⟨gb336, 0, none⟩) (Kd.V_mono HO331.out (fun k_ hk => (⟨hk, hk.2⟩ : _ ∧ k_ ≠ gb336))) (fun _ hk => hk.2) (.int .i64 t332)) (fun _ hk => hk.2) (.int .i64 t333)) (fun _ hk => hk.2) (.string t334)) (fun _ hk => hk.2) (.bool t335)) (fun _ hk => hk.1.2)⟩, ⟨by (with_reducible repeat (first | refine blk_drewN ?_ _ | refine blk_drew ?_ | refine blk_alloc ?_ _)); refine blk_put (cs := #[.int .i64 t332, .int .i64 t333, .string t334, .bool false]) ?_ 3 _ rfl; (with_reducible repeat (first | refine blk_drewN ?_ _ | refine blk_drew ?_ | refine blk_alloc ?_ _)); refine blk_put (cs := #[.int .i64 t332, .int .i64 t333, .string (⟨#[]⟩ : ByteArray), .bool false]) ?_ 2 _ rfl; (with_reducible repeat (first | refine blk_drewN ?_ _ | refine blk_drew ?_ | refine blk_alloc ?_ _)); refine blk_put (cs := #[.int .i64 t332, .int .i64 0, .string (⟨#[]⟩ : ByteArray), .bool false]) ?_ 1 _ rfl; (with_reducible repeat (first | refine blk_drewN ?_ _ | refine blk_drew ?_ | refine blk_alloc ?_ _)); refine blk_put (cs := #[.int .i64 0, .int .i64 0, .string (⟨#[]⟩ : ByteArray), .bool false]) ?_ 0 _ rfl; (with_reducible repeat (first | refine blk_drewN ?_ _ | refine blk_drew ?_ | refine blk_alloc ?_ _)); exact BK336.out⟩, ⟨by repeat (first | (with_reducible first | exact HB.out | apply below_alloc | apply pw_below_drewN | apply below_drew1 | refine below_set ?_ GE336.out) | exact HB.out)⟩⟩
    case round =>
      clear H'
      try clear c1
      try clear p2
      try clear c5
      try clear c5b0
      try clear hcz14_0
      try clear hcz14_1
      try clear hcz14_2
      try clear hcz14_3
      try clear hfz14_0
      try clear hfz14_1
      try clear hfz14_2
      try clear hfz14_3
      obtain ⟨x8_1, x10_1, rfl, HA, HK1, HO_8, BK336, HB⟩ := hrel
      cases gk with
      | zero => exact absurd HA.out (by simp [ogivelaw10_ChainStays.l0])
      | succ k1 =>
        have H := HA.out
        clear HA
        simp only [ogivelaw10_ChainStays.l0] at H
        have HC15 := Aside0.mk H
        clear H
        go_upto_region 6 with (fail)
        repeat (go_quiet (fail); go_upto_region 6 with (fail))
        go_cut [31] (fun v31 wc => ∃ (kq : Nat) (x31_14 : Bool), v31 = .bool x31_14 ∧ Aside0 (ogivelaw10_ChainStays.j1 kq l1 a2 t325 x8_1 x10_1 x31_14 t332 t333 t334 t335 = some r) ∧ Aside0 (kq ≤ k1) ∧ Aside0 (Kd.V k27 27 wc w.heap.size (fun k_ => k_ ≠ gb336) u8 x8_1) ∧ Aside0 (wc.heap[gb336]? = some (.cells #[.int .i64 t332, .int .i64 t333, .string t334, .bool t335] 27 (0, 0))) ∧ Aside0 (Below w.heap.size w wc))
        case first =>
          have H := HC15.out
          clear HC15
          by_cases c16 : x10_1 < (l1.length : Int)
          · rw [if_pos c16] at H
            have c16b0 : decide (x10_1 < (l1.length : Int)) = true := decide_eq_true c16
            clear c16
            (first | rw [c16b0] | (simp only [i64_w, i32_w]; rw [c16b0]) | skip)
            have H' := Aside0.mk H
            clear H
            go_wp2
            repeat (go_quiet (fail); try go_wp2)
            go_meet
            case rel => exact ⟨_, (decide (x10_1 < 60)), (by first | rfl | (simp; done) | (simp [*]; done)), H', ⟨by have := HK1.out; first | omega | exact Nat.le_refl _⟩, ⟨by (with_reducible repeat (first | apply Kd.V_alloc | apply Kd.V_drewN | apply Kd.V_drew)); exact HO_8.out⟩, ⟨by (with_reducible repeat (first | refine blk_drewN ?_ _ | refine blk_drew ?_ | refine blk_alloc ?_ _)); exact BK336.out⟩, ⟨by repeat (first | (with_reducible first | exact HB.out | apply below_alloc | apply pw_below_drewN | apply below_drew1 | refine below_set ?_ GE336.out) | exact HB.out)⟩⟩
          · rw [if_neg c16] at H
            have c16b0 : decide (x10_1 < (l1.length : Int)) = false := decide_eq_false c16
            clear c16
            (first | rw [c16b0] | (simp only [i64_w, i32_w]; rw [c16b0]) | skip)
            have H' := Aside0.mk H
            clear H
            go_wp2
            repeat (go_quiet (fail); try go_wp2)
            go_meet
            case rel => exact ⟨_, (false), (by first | rfl | (simp; done) | (simp [*]; done)), H', ⟨by have := HK1.out; first | omega | exact Nat.le_refl _⟩, ⟨by (with_reducible repeat (first | apply Kd.V_alloc | apply Kd.V_drewN | apply Kd.V_drew)); exact HO_8.out⟩, ⟨by (with_reducible repeat (first | refine blk_drewN ?_ _ | refine blk_drew ?_ | refine blk_alloc ?_ _)); exact BK336.out⟩, ⟨by repeat (first | (with_reducible first | exact HB.out | apply below_alloc | apply pw_below_drewN | apply below_drew1 | refine below_set ?_ GE336.out) | exact HB.out)⟩⟩
        case rest =>
          clear HC15
          try clear c1
          try clear p2
          try clear c5
          try clear c5b0
          try clear c16
          try clear c16b0
          try clear hcz14_0
          try clear hcz14_1
          try clear hcz14_2
          try clear hcz14_3
          try clear hfz14_0
          try clear hfz14_1
          try clear hfz14_2
          try clear hfz14_3
          try clear p2
          obtain ⟨kq, x31_14, rfl, HA, HJ14, HO_8, BK336, HB⟩ := hcut
          cases kq with
          | zero => exact absurd HA.out (by simp [ogivelaw10_ChainStays.j1])
          | succ kj14 =>
            have H := HA.out
            clear HA
            simp only [ogivelaw10_ChainStays.j1] at H
            by_cases c17 : x31_14 = true
            · subst c17
              have H1 : (if 0 ≤ x10_1 then (if x10_1 < (l1.length : Int) then (if ((rd_T51 l1 x10_1).f1) = a2 then (if ((rd_T51 l1 x10_1).f0) = 2 then (ogivelaw10_ChainStays.j2 kj14 l1 a2 t325 x8_1 x10_1 true t332 t333 t334 t335) else (if ((rd_T51 l1 x10_1).f1) = t332 then (if ((rd_T51 l1 x10_1).f0) = 4 then (if t335 = true then (ogivelaw10_ChainStays.j2 kj14 l1 a2 t325 x8_1 x10_1 (((rd_T51 l1 x10_1).f0) == 2) t332 t333 t334 t335) else (ogivelaw10_ChainStays.j2 kj14 l1 a2 t325 x8_1 x10_1 true t332 t333 t334 t335)) else (ogivelaw10_ChainStays.j2 kj14 l1 a2 t325 x8_1 x10_1 (((rd_T51 l1 x10_1).f0) == 2) t332 t333 t334 t335)) else (ogivelaw10_ChainStays.j2 kj14 l1 a2 t325 x8_1 x10_1 false t332 t333 t334 t335))) else (if ((rd_T51 l1 x10_1).f1) = t332 then (if ((rd_T51 l1 x10_1).f0) = 4 then (if t335 = true then (ogivelaw10_ChainStays.j2 kj14 l1 a2 t325 x8_1 x10_1 (((rd_T51 l1 x10_1).f0) == 2) t332 t333 t334 t335) else (ogivelaw10_ChainStays.j2 kj14 l1 a2 t325 x8_1 x10_1 true t332 t333 t334 t335)) else (ogivelaw10_ChainStays.j2 kj14 l1 a2 t325 x8_1 x10_1 (((rd_T51 l1 x10_1).f0) == 2) t332 t333 t334 t335)) else (ogivelaw10_ChainStays.j2 kj14 l1 a2 t325 x8_1 x10_1 false t332 t333 t334 t335))) else (none)) else (none)) = some r := by rw [if_pos rfl] at H; exact H
              clear H
              have H := H1
              clear H1
              have HC18 := Aside0.mk H
              clear H
              go_upto_region 8 with (fail)
              repeat (go_quiet (fail); go_upto_region 8 with (fail))
              go_cut [79] (fun v79 wc => ∃ (kq : Nat) (x79_17 : Bool), v79 = .bool x79_17 ∧ Aside0 (ogivelaw10_ChainStays.j2 kq l1 a2 t325 x8_1 x10_1 x79_17 t332 t333 t334 t335 = some r) ∧ Aside0 (kq ≤ kj14) ∧ Aside0 (Kd.V k27 27 wc w.heap.size (fun k_ => k_ ≠ gb336) u8 x8_1) ∧ Aside0 (wc.heap[gb336]? = some (.cells #[.int .i64 t332, .int .i64 t333, .string t334, .bool t335] 27 (0, 0))) ∧ Aside0 (Below w.heap.size w wc))
              case first =>
                have H := HC18.out
                clear HC18
                by_cases c19 : 0 ≤ x10_1
                · rw [if_pos c19] at H
                  have c19b0 : decide (0 ≤ x10_1) = true := decide_eq_true c19
                  clear c19
                  (first | rw [c19b0] | (simp only [i64_w, i32_w]; rw [c19b0]) | skip)
                  by_cases c20 : x10_1 < (l1.length : Int)
                  · rw [if_pos c20] at H
                    have c20b0 : decide (x10_1 < (l1.length : Int)) = true := decide_eq_true c20
                    clear c20
                    by_cases c21 : ((rd_T51 l1 x10_1).f1) = a2
                    · rw [if_pos c21] at H
                      have c21b0 : (((rd_T51 l1 x10_1).f1) == a2) = true := beq_iff_eq.mpr c21
                      have c21b1 : (((rd_T51 l1 x10_1).f1) != a2) = false := bne_eq_false_iff_eq.mpr c21
                      clear c21
                      by_cases c22 : ((rd_T51 l1 x10_1).f0) = 2
                      · rw [if_pos c22] at H
                        have c22b0 : (((rd_T51 l1 x10_1).f0) == 2) = true := beq_iff_eq.mpr c22
                        have c22b1 : (((rd_T51 l1 x10_1).f0) != 2) = false := bne_eq_false_iff_eq.mpr c22
                        clear c22
                        have H' := Aside0.mk H
                        clear H
                        have p337 : 0 ≤ (x10_1 : Int) := of_decide_eq_true (by first | (with_reducible assumption) | assumption)
                        have q337 : x10_1 < (l1.length : Int) := of_decide_eq_true (by first | (with_reducible assumption) | assumption)
                        obtain ⟨ad337, e337, hx337_0, hx337_1, hx337_2⟩ := at_T51 HR1.out x10_1 p337 q337
                        cases e337
                        replace hx337_0 := (HB.out.cell (World.block_lt_of_cell? w _ hx337_0)).trans hx337_0
                        replace hx337_1 := (HB.out.cell (World.block_lt_of_cell? w _ hx337_1)).trans hx337_1
                        replace hx337_2 := (HB.out.cell (World.block_lt_of_cell? w _ hx337_2)).trans hx337_2
                        replace p337 := eq_true p337
                        replace q337 := eq_true q337
                        have p338 : 0 ≤ (x10_1 : Int) := of_decide_eq_true (by first | (with_reducible assumption) | assumption)
                        have q338 : x10_1 < (l1.length : Int) := of_decide_eq_true (by first | (with_reducible assumption) | assumption)
                        obtain ⟨ad338, e338, hx338_0, hx338_1, hx338_2⟩ := at_T51 HR1.out x10_1 p338 q338
                        obtain rfl : ad337 = ad338 := (by injection e338)
                        replace hx338_0 := (HB.out.cell (World.block_lt_of_cell? w _ hx338_0)).trans hx338_0
                        replace hx338_1 := (HB.out.cell (World.block_lt_of_cell? w _ hx338_1)).trans hx338_1
                        replace hx338_2 := (HB.out.cell (World.block_lt_of_cell? w _ hx338_2)).trans hx338_2
                        replace p338 := eq_true p338
                        replace q338 := eq_true q338
                        go_wp2
                        repeat (go_quiet (fail); try go_wp2)
                        go_meet
                        case rel => exact ⟨_, (true), (by first | rfl | (simp; done) | (simp [*]; done)), H', ⟨by have := HK1.out; have := HJ14.out; first | omega | exact Nat.le_refl _⟩, ⟨by (with_reducible repeat (first | apply Kd.V_alloc | apply Kd.V_drewN | apply Kd.V_drew)); exact HO_8.out⟩, ⟨by (with_reducible repeat (first | refine blk_drewN ?_ _ | refine blk_drew ?_ | refine blk_alloc ?_ _)); exact BK336.out⟩, ⟨by repeat (first | (with_reducible first | exact HB.out | apply below_alloc | apply pw_below_drewN | apply below_drew1 | refine below_set ?_ GE336.out) | exact HB.out)⟩⟩
                      · rw [if_neg c22] at H
                        have c22b0 : (((rd_T51 l1 x10_1).f0) == 2) = false := beq_eq_false_iff_ne.mpr c22
                        have c22b1 : (((rd_T51 l1 x10_1).f0) != 2) = true := bne_iff_ne.mpr c22
                        by_cases c23 : ((rd_T51 l1 x10_1).f1) = t332
                        · rw [if_pos c23] at H
                          have c23b0 : (((rd_T51 l1 x10_1).f1) == t332) = true := beq_iff_eq.mpr c23
                          have c23b1 : (((rd_T51 l1 x10_1).f1) != t332) = false := bne_eq_false_iff_eq.mpr c23
                          clear c23
                          by_cases c24 : ((rd_T51 l1 x10_1).f0) = 4
                          · rw [if_pos c24] at H
                            have c24b0 : (((rd_T51 l1 x10_1).f0) == 4) = true := beq_iff_eq.mpr c24
                            have c24b1 : (((rd_T51 l1 x10_1).f0) != 4) = false := bne_eq_false_iff_eq.mpr c24
                            clear c24
                            by_cases c25 : t335 = true
                            · subst c25
                              have H1 : (ogivelaw10_ChainStays.j2 kj14 l1 a2 t325 x8_1 x10_1 (((rd_T51 l1 x10_1).f0) == 2) t332 t333 t334 true) = some r := by rw [if_pos rfl] at H; exact H
                              clear H
                              have H := H1
                              clear H1
                              have H' := Aside0.mk H
                              clear H
                              have p337 : 0 ≤ (x10_1 : Int) := of_decide_eq_true (by first | (with_reducible assumption) | assumption)
                              have q337 : x10_1 < (l1.length : Int) := of_decide_eq_true (by first | (with_reducible assumption) | assumption)
                              obtain ⟨ad337, e337, hx337_0, hx337_1, hx337_2⟩ := at_T51 HR1.out x10_1 p337 q337
                              cases e337
                              replace hx337_0 := (HB.out.cell (World.block_lt_of_cell? w _ hx337_0)).trans hx337_0
                              replace hx337_1 := (HB.out.cell (World.block_lt_of_cell? w _ hx337_1)).trans hx337_1
                              replace hx337_2 := (HB.out.cell (World.block_lt_of_cell? w _ hx337_2)).trans hx337_2
                              replace p337 := eq_true p337
                              replace q337 := eq_true q337
                              have p338 : 0 ≤ (x10_1 : Int) := of_decide_eq_true (by first | (with_reducible assumption) | assumption)
                              have q338 : x10_1 < (l1.length : Int) := of_decide_eq_true (by first | (with_reducible assumption) | assumption)
                              obtain ⟨ad338, e338, hx338_0, hx338_1, hx338_2⟩ := at_T51 HR1.out x10_1 p338 q338
                              obtain rfl : ad337 = ad338 := (by injection e338)
                              replace hx338_0 := (HB.out.cell (World.block_lt_of_cell? w _ hx338_0)).trans hx338_0
                              replace hx338_1 := (HB.out.cell (World.block_lt_of_cell? w _ hx338_1)).trans hx338_1
                              replace hx338_2 := (HB.out.cell (World.block_lt_of_cell? w _ hx338_2)).trans hx338_2
                              replace p338 := eq_true p338
                              replace q338 := eq_true q338
                              have p339 : 0 ≤ (x10_1 : Int) := of_decide_eq_true (by first | (with_reducible assumption) | assumption)
                              have q339 : x10_1 < (l1.length : Int) := of_decide_eq_true (by first | (with_reducible assumption) | assumption)
                              obtain ⟨ad339, e339, hx339_0, hx339_1, hx339_2⟩ := at_T51 HR1.out x10_1 p339 q339
                              obtain rfl : ad337 = ad339 := (by injection e339)
                              replace hx339_0 := (HB.out.cell (World.block_lt_of_cell? w _ hx339_0)).trans hx339_0
                              replace hx339_1 := (HB.out.cell (World.block_lt_of_cell? w _ hx339_1)).trans hx339_1
                              replace hx339_2 := (HB.out.cell (World.block_lt_of_cell? w _ hx339_2)).trans hx339_2
                              replace p339 := eq_true p339
                              replace q339 := eq_true q339
                              have hcz26_0 : wc.cell? ⟨gb336, 0, none⟩ = some (.int .i64 t332) := (blk_cell BK336.out 0).trans rfl
                              have hcz26_1 : wc.cell? ⟨gb336, 1, none⟩ = some (.int .i64 t333) := (blk_cell BK336.out 1).trans rfl
                              have hcz26_2 : wc.cell? ⟨gb336, 2, none⟩ = some (.string t334) := (blk_cell BK336.out 2).trans rfl
                              have hcz26_3 : wc.cell? ⟨gb336, 3, none⟩ = some (.bool true) := (blk_cell BK336.out 3).trans rfl
                              have hfz26_0 := blk_frozen BK336.out 0
                              have hfz26_1 := blk_frozen BK336.out 1
                              have hfz26_2 := blk_frozen BK336.out 2
                              have hfz26_3 := blk_frozen BK336.out 3
                              have p340 : 0 ≤ (x10_1 : Int) := of_decide_eq_true (by first | (with_reducible assumption) | assumption)
                              have q340 : x10_1 < (l1.length : Int) := of_decide_eq_true (by first | (with_reducible assumption) | assumption)
                              obtain ⟨ad340, e340, hx340_0, hx340_1, hx340_2⟩ := at_T51 HR1.out x10_1 p340 q340
                              obtain rfl : ad337 = ad340 := (by injection e340)
                              replace hx340_0 := (HB.out.cell (World.block_lt_of_cell? w _ hx340_0)).trans hx340_0
                              replace hx340_1 := (HB.out.cell (World.block_lt_of_cell? w _ hx340_1)).trans hx340_1
                              replace hx340_2 := (HB.out.cell (World.block_lt_of_cell? w _ hx340_2)).trans hx340_2
                              replace p340 := eq_true p340
                              replace q340 := eq_true q340
                              have p341 : 0 ≤ (x10_1 : Int) := of_decide_eq_true (by first | (with_reducible assumption) | assumption)
                              have q341 : x10_1 < (l1.length : Int) := of_decide_eq_true (by first | (with_reducible assumption) | assumption)
                              obtain ⟨ad341, e341, hx341_0, hx341_1, hx341_2⟩ := at_T51 HR1.out x10_1 p341 q341
                              obtain rfl : ad337 = ad341 := (by injection e341)
                              replace hx341_0 := (HB.out.cell (World.block_lt_of_cell? w _ hx341_0)).trans hx341_0
                              replace hx341_1 := (HB.out.cell (World.block_lt_of_cell? w _ hx341_1)).trans hx341_1
                              replace hx341_2 := (HB.out.cell (World.block_lt_of_cell? w _ hx341_2)).trans hx341_2
                              replace p341 := eq_true p341
                              replace q341 := eq_true q341
                              go_wp2
                              repeat (go_quiet (fail); try go_wp2)
                              go_meet
                              case rel => exact ⟨_, ((((rd_T51 l1 x10_1).f0) == 2)), (by first | rfl | (simp; done) | (simp [*]; done)), H', ⟨by have := HK1.out; have := HJ14.out; first | omega | exact Nat.le_refl _⟩, ⟨by (with_reducible repeat (first | apply Kd.V_alloc | apply Kd.V_drewN | apply Kd.V_drew)); exact HO_8.out⟩, ⟨by (with_reducible repeat (first | refine blk_drewN ?_ _ | refine blk_drew ?_ | refine blk_alloc ?_ _)); exact BK336.out⟩, ⟨by repeat (first | (with_reducible first | exact HB.out | apply below_alloc | apply pw_below_drewN | apply below_drew1 | refine below_set ?_ GE336.out) | exact HB.out)⟩⟩
                            · replace c25 := Bool.eq_false_iff.mpr c25
                              subst c25
                              have H1 : (ogivelaw10_ChainStays.j2 kj14 l1 a2 t325 x8_1 x10_1 true t332 t333 t334 false) = some r := by rw [if_neg (show ¬ (false = true) by decide)] at H; exact H
                              clear H
                              have H := H1
                              clear H1
                              have H' := Aside0.mk H
                              clear H
                              have p337 : 0 ≤ (x10_1 : Int) := of_decide_eq_true (by first | (with_reducible assumption) | assumption)
                              have q337 : x10_1 < (l1.length : Int) := of_decide_eq_true (by first | (with_reducible assumption) | assumption)
                              obtain ⟨ad337, e337, hx337_0, hx337_1, hx337_2⟩ := at_T51 HR1.out x10_1 p337 q337
                              cases e337
                              replace hx337_0 := (HB.out.cell (World.block_lt_of_cell? w _ hx337_0)).trans hx337_0
                              replace hx337_1 := (HB.out.cell (World.block_lt_of_cell? w _ hx337_1)).trans hx337_1
                              replace hx337_2 := (HB.out.cell (World.block_lt_of_cell? w _ hx337_2)).trans hx337_2
                              replace p337 := eq_true p337
                              replace q337 := eq_true q337
                              have p338 : 0 ≤ (x10_1 : Int) := of_decide_eq_true (by first | (with_reducible assumption) | assumption)
                              have q338 : x10_1 < (l1.length : Int) := of_decide_eq_true (by first | (with_reducible assumption) | assumption)
                              obtain ⟨ad338, e338, hx338_0, hx338_1, hx338_2⟩ := at_T51 HR1.out x10_1 p338 q338
                              obtain rfl : ad337 = ad338 := (by injection e338)
                              replace hx338_0 := (HB.out.cell (World.block_lt_of_cell? w _ hx338_0)).trans hx338_0
                              replace hx338_1 := (HB.out.cell (World.block_lt_of_cell? w _ hx338_1)).trans hx338_1
                              replace hx338_2 := (HB.out.cell (World.block_lt_of_cell? w _ hx338_2)).trans hx338_2
                              replace p338 := eq_true p338
                              replace q338 := eq_true q338
                              have p339 : 0 ≤ (x10_1 : Int) := of_decide_eq_true (by first | (with_reducible assumption) | assumption)
                              have q339 : x10_1 < (l1.length : Int) := of_decide_eq_true (by first | (with_reducible assumption) | assumption)
                              obtain ⟨ad339, e339, hx339_0, hx339_1, hx339_2⟩ := at_T51 HR1.out x10_1 p339 q339
                              obtain rfl : ad337 = ad339 := (by injection e339)
                              replace hx339_0 := (HB.out.cell (World.block_lt_of_cell? w _ hx339_0)).trans hx339_0
                              replace hx339_1 := (HB.out.cell (World.block_lt_of_cell? w _ hx339_1)).trans hx339_1
                              replace hx339_2 := (HB.out.cell (World.block_lt_of_cell? w _ hx339_2)).trans hx339_2
                              replace p339 := eq_true p339
                              replace q339 := eq_true q339
                              have hcz27_0 : wc.cell? ⟨gb336, 0, none⟩ = some (.int .i64 t332) := (blk_cell BK336.out 0).trans rfl
                              have hcz27_1 : wc.cell? ⟨gb336, 1, none⟩ = some (.int .i64 t333) := (blk_cell BK336.out 1).trans rfl
                              have hcz27_2 : wc.cell? ⟨gb336, 2, none⟩ = some (.string t334) := (blk_cell BK336.out 2).trans rfl
                              have hcz27_3 : wc.cell? ⟨gb336, 3, none⟩ = some (.bool false) := (blk_cell BK336.out 3).trans rfl
                              have hfz27_0 := blk_frozen BK336.out 0
                              have hfz27_1 := blk_frozen BK336.out 1
                              have hfz27_2 := blk_frozen BK336.out 2
                              have hfz27_3 := blk_frozen BK336.out 3
                              have p340 : 0 ≤ (x10_1 : Int) := of_decide_eq_true (by first | (with_reducible assumption) | assumption)
                              have q340 : x10_1 < (l1.length : Int) := of_decide_eq_true (by first | (with_reducible assumption) | assumption)
                              obtain ⟨ad340, e340, hx340_0, hx340_1, hx340_2⟩ := at_T51 HR1.out x10_1 p340 q340
                              obtain rfl : ad337 = ad340 := (by injection e340)
                              replace hx340_0 := (HB.out.cell (World.block_lt_of_cell? w _ hx340_0)).trans hx340_0
                              replace hx340_1 := (HB.out.cell (World.block_lt_of_cell? w _ hx340_1)).trans hx340_1
                              replace hx340_2 := (HB.out.cell (World.block_lt_of_cell? w _ hx340_2)).trans hx340_2
                              replace p340 := eq_true p340
                              replace q340 := eq_true q340
                              go_wp2
                              repeat (go_quiet (fail); try go_wp2)
                              go_meet
                              case rel => exact ⟨_, (true), (by first | rfl | (simp; done) | (simp [*]; done)), H', ⟨by have := HK1.out; have := HJ14.out; first | omega | exact Nat.le_refl _⟩, ⟨by (with_reducible repeat (first | apply Kd.V_alloc | apply Kd.V_drewN | apply Kd.V_drew)); exact HO_8.out⟩, ⟨by (with_reducible repeat (first | refine blk_drewN ?_ _ | refine blk_drew ?_ | refine blk_alloc ?_ _)); exact BK336.out⟩, ⟨by repeat (first | (with_reducible first | exact HB.out | apply below_alloc | apply pw_below_drewN | apply below_drew1 | refine below_set ?_ GE336.out) | exact HB.out)⟩⟩
                          · rw [if_neg c24] at H
                            have c24b0 : (((rd_T51 l1 x10_1).f0) == 4) = false := beq_eq_false_iff_ne.mpr c24
                            have c24b1 : (((rd_T51 l1 x10_1).f0) != 4) = true := bne_iff_ne.mpr c24
                            have H' := Aside0.mk H
                            clear H
                            have p337 : 0 ≤ (x10_1 : Int) := of_decide_eq_true (by first | (with_reducible assumption) | assumption)
                            have q337 : x10_1 < (l1.length : Int) := of_decide_eq_true (by first | (with_reducible assumption) | assumption)
                            obtain ⟨ad337, e337, hx337_0, hx337_1, hx337_2⟩ := at_T51 HR1.out x10_1 p337 q337
                            cases e337
                            replace hx337_0 := (HB.out.cell (World.block_lt_of_cell? w _ hx337_0)).trans hx337_0
                            replace hx337_1 := (HB.out.cell (World.block_lt_of_cell? w _ hx337_1)).trans hx337_1
                            replace hx337_2 := (HB.out.cell (World.block_lt_of_cell? w _ hx337_2)).trans hx337_2
                            replace p337 := eq_true p337
                            replace q337 := eq_true q337
                            have p338 : 0 ≤ (x10_1 : Int) := of_decide_eq_true (by first | (with_reducible assumption) | assumption)
                            have q338 : x10_1 < (l1.length : Int) := of_decide_eq_true (by first | (with_reducible assumption) | assumption)
                            obtain ⟨ad338, e338, hx338_0, hx338_1, hx338_2⟩ := at_T51 HR1.out x10_1 p338 q338
                            obtain rfl : ad337 = ad338 := (by injection e338)
                            replace hx338_0 := (HB.out.cell (World.block_lt_of_cell? w _ hx338_0)).trans hx338_0
                            replace hx338_1 := (HB.out.cell (World.block_lt_of_cell? w _ hx338_1)).trans hx338_1
                            replace hx338_2 := (HB.out.cell (World.block_lt_of_cell? w _ hx338_2)).trans hx338_2
                            replace p338 := eq_true p338
                            replace q338 := eq_true q338
                            have p339 : 0 ≤ (x10_1 : Int) := of_decide_eq_true (by first | (with_reducible assumption) | assumption)
                            have q339 : x10_1 < (l1.length : Int) := of_decide_eq_true (by first | (with_reducible assumption) | assumption)
                            obtain ⟨ad339, e339, hx339_0, hx339_1, hx339_2⟩ := at_T51 HR1.out x10_1 p339 q339
                            obtain rfl : ad337 = ad339 := (by injection e339)
                            replace hx339_0 := (HB.out.cell (World.block_lt_of_cell? w _ hx339_0)).trans hx339_0
                            replace hx339_1 := (HB.out.cell (World.block_lt_of_cell? w _ hx339_1)).trans hx339_1
                            replace hx339_2 := (HB.out.cell (World.block_lt_of_cell? w _ hx339_2)).trans hx339_2
                            replace p339 := eq_true p339
                            replace q339 := eq_true q339
                            have hcz28_0 : wc.cell? ⟨gb336, 0, none⟩ = some (.int .i64 t332) := (blk_cell BK336.out 0).trans rfl
                            have hcz28_1 : wc.cell? ⟨gb336, 1, none⟩ = some (.int .i64 t333) := (blk_cell BK336.out 1).trans rfl
                            have hcz28_2 : wc.cell? ⟨gb336, 2, none⟩ = some (.string t334) := (blk_cell BK336.out 2).trans rfl
                            have hcz28_3 : wc.cell? ⟨gb336, 3, none⟩ = some (.bool t335) := (blk_cell BK336.out 3).trans rfl
                            have hfz28_0 := blk_frozen BK336.out 0
                            have hfz28_1 := blk_frozen BK336.out 1
                            have hfz28_2 := blk_frozen BK336.out 2
                            have hfz28_3 := blk_frozen BK336.out 3
                            have p340 : 0 ≤ (x10_1 : Int) := of_decide_eq_true (by first | (with_reducible assumption) | assumption)
                            have q340 : x10_1 < (l1.length : Int) := of_decide_eq_true (by first | (with_reducible assumption) | assumption)
                            obtain ⟨ad340, e340, hx340_0, hx340_1, hx340_2⟩ := at_T51 HR1.out x10_1 p340 q340
                            obtain rfl : ad337 = ad340 := (by injection e340)
                            replace hx340_0 := (HB.out.cell (World.block_lt_of_cell? w _ hx340_0)).trans hx340_0
                            replace hx340_1 := (HB.out.cell (World.block_lt_of_cell? w _ hx340_1)).trans hx340_1
                            replace hx340_2 := (HB.out.cell (World.block_lt_of_cell? w _ hx340_2)).trans hx340_2
                            replace p340 := eq_true p340
                            replace q340 := eq_true q340
                            have p342 : 0 ≤ (x10_1 : Int) := of_decide_eq_true (by first | (with_reducible assumption) | assumption)
                            have q342 : x10_1 < (l1.length : Int) := of_decide_eq_true (by first | (with_reducible assumption) | assumption)
                            obtain ⟨ad342, e342, hx342_0, hx342_1, hx342_2⟩ := at_T51 HR1.out x10_1 p342 q342
                            obtain rfl : ad337 = ad342 := (by injection e342)
                            replace hx342_0 := (HB.out.cell (World.block_lt_of_cell? w _ hx342_0)).trans hx342_0
                            replace hx342_1 := (HB.out.cell (World.block_lt_of_cell? w _ hx342_1)).trans hx342_1
                            replace hx342_2 := (HB.out.cell (World.block_lt_of_cell? w _ hx342_2)).trans hx342_2
                            replace p342 := eq_true p342
                            replace q342 := eq_true q342
                            go_wp2
                            repeat (go_quiet (fail); try go_wp2)
                            go_meet
                            case rel => exact ⟨_, ((((rd_T51 l1 x10_1).f0) == 2)), (by first | rfl | (simp; done) | (simp [*]; done)), H', ⟨by have := HK1.out; have := HJ14.out; first | omega | exact Nat.le_refl _⟩, ⟨by (with_reducible repeat (first | apply Kd.V_alloc | apply Kd.V_drewN | apply Kd.V_drew)); exact HO_8.out⟩, ⟨by (with_reducible repeat (first | refine blk_drewN ?_ _ | refine blk_drew ?_ | refine blk_alloc ?_ _)); exact BK336.out⟩, ⟨by repeat (first | (with_reducible first | exact HB.out | apply below_alloc | apply pw_below_drewN | apply below_drew1 | refine below_set ?_ GE336.out) | exact HB.out)⟩⟩
                        · rw [if_neg c23] at H
                          have c23b0 : (((rd_T51 l1 x10_1).f1) == t332) = false := beq_eq_false_iff_ne.mpr c23
                          have c23b1 : (((rd_T51 l1 x10_1).f1) != t332) = true := bne_iff_ne.mpr c23
                          have H' := Aside0.mk H
                          clear H
                          have p337 : 0 ≤ (x10_1 : Int) := of_decide_eq_true (by first | (with_reducible assumption) | assumption)
                          have q337 : x10_1 < (l1.length : Int) := of_decide_eq_true (by first | (with_reducible assumption) | assumption)
                          obtain ⟨ad337, e337, hx337_0, hx337_1, hx337_2⟩ := at_T51 HR1.out x10_1 p337 q337
                          cases e337
                          replace hx337_0 := (HB.out.cell (World.block_lt_of_cell? w _ hx337_0)).trans hx337_0
                          replace hx337_1 := (HB.out.cell (World.block_lt_of_cell? w _ hx337_1)).trans hx337_1
                          replace hx337_2 := (HB.out.cell (World.block_lt_of_cell? w _ hx337_2)).trans hx337_2
                          replace p337 := eq_true p337
                          replace q337 := eq_true q337
                          have p338 : 0 ≤ (x10_1 : Int) := of_decide_eq_true (by first | (with_reducible assumption) | assumption)
                          have q338 : x10_1 < (l1.length : Int) := of_decide_eq_true (by first | (with_reducible assumption) | assumption)
                          obtain ⟨ad338, e338, hx338_0, hx338_1, hx338_2⟩ := at_T51 HR1.out x10_1 p338 q338
                          obtain rfl : ad337 = ad338 := (by injection e338)
                          replace hx338_0 := (HB.out.cell (World.block_lt_of_cell? w _ hx338_0)).trans hx338_0
                          replace hx338_1 := (HB.out.cell (World.block_lt_of_cell? w _ hx338_1)).trans hx338_1
                          replace hx338_2 := (HB.out.cell (World.block_lt_of_cell? w _ hx338_2)).trans hx338_2
                          replace p338 := eq_true p338
                          replace q338 := eq_true q338
                          have p339 : 0 ≤ (x10_1 : Int) := of_decide_eq_true (by first | (with_reducible assumption) | assumption)
                          have q339 : x10_1 < (l1.length : Int) := of_decide_eq_true (by first | (with_reducible assumption) | assumption)
                          obtain ⟨ad339, e339, hx339_0, hx339_1, hx339_2⟩ := at_T51 HR1.out x10_1 p339 q339
                          obtain rfl : ad337 = ad339 := (by injection e339)
                          replace hx339_0 := (HB.out.cell (World.block_lt_of_cell? w _ hx339_0)).trans hx339_0
                          replace hx339_1 := (HB.out.cell (World.block_lt_of_cell? w _ hx339_1)).trans hx339_1
                          replace hx339_2 := (HB.out.cell (World.block_lt_of_cell? w _ hx339_2)).trans hx339_2
                          replace p339 := eq_true p339
                          replace q339 := eq_true q339
                          have hcz29_0 : wc.cell? ⟨gb336, 0, none⟩ = some (.int .i64 t332) := (blk_cell BK336.out 0).trans rfl
                          have hcz29_1 : wc.cell? ⟨gb336, 1, none⟩ = some (.int .i64 t333) := (blk_cell BK336.out 1).trans rfl
                          have hcz29_2 : wc.cell? ⟨gb336, 2, none⟩ = some (.string t334) := (blk_cell BK336.out 2).trans rfl
                          have hcz29_3 : wc.cell? ⟨gb336, 3, none⟩ = some (.bool t335) := (blk_cell BK336.out 3).trans rfl
                          have hfz29_0 := blk_frozen BK336.out 0
                          have hfz29_1 := blk_frozen BK336.out 1
                          have hfz29_2 := blk_frozen BK336.out 2
                          have hfz29_3 := blk_frozen BK336.out 3
                          go_wp2
                          repeat (go_quiet (fail); try go_wp2)
                          go_meet
                          case rel => exact ⟨_, (false), (by first | rfl | (simp; done) | (simp [*]; done)), H', ⟨by have := HK1.out; have := HJ14.out; first | omega | exact Nat.le_refl _⟩, ⟨by (with_reducible repeat (first | apply Kd.V_alloc | apply Kd.V_drewN | apply Kd.V_drew)); exact HO_8.out⟩, ⟨by (with_reducible repeat (first | refine blk_drewN ?_ _ | refine blk_drew ?_ | refine blk_alloc ?_ _)); exact BK336.out⟩, ⟨by repeat (first | (with_reducible first | exact HB.out | apply below_alloc | apply pw_below_drewN | apply below_drew1 | refine below_set ?_ GE336.out) | exact HB.out)⟩⟩
                    · rw [if_neg c21] at H
                      have c21b0 : (((rd_T51 l1 x10_1).f1) == a2) = false := beq_eq_false_iff_ne.mpr c21
                      have c21b1 : (((rd_T51 l1 x10_1).f1) != a2) = true := bne_iff_ne.mpr c21
                      by_cases c30 : ((rd_T51 l1 x10_1).f1) = t332
                      · rw [if_pos c30] at H
                        have c30b0 : (((rd_T51 l1 x10_1).f1) == t332) = true := beq_iff_eq.mpr c30
                        have c30b1 : (((rd_T51 l1 x10_1).f1) != t332) = false := bne_eq_false_iff_eq.mpr c30
                        clear c30
                        by_cases c31 : ((rd_T51 l1 x10_1).f0) = 4
                        · rw [if_pos c31] at H
                          have c31b0 : (((rd_T51 l1 x10_1).f0) == 4) = true := beq_iff_eq.mpr c31
                          have c31b1 : (((rd_T51 l1 x10_1).f0) != 4) = false := bne_eq_false_iff_eq.mpr c31
                          clear c31
                          by_cases c32 : t335 = true
                          · subst c32
                            have H1 : (ogivelaw10_ChainStays.j2 kj14 l1 a2 t325 x8_1 x10_1 (((rd_T51 l1 x10_1).f0) == 2) t332 t333 t334 true) = some r := by rw [if_pos rfl] at H; exact H
                            clear H
                            have H := H1
                            clear H1
                            have H' := Aside0.mk H
                            clear H
                            have p337 : 0 ≤ (x10_1 : Int) := of_decide_eq_true (by first | (with_reducible assumption) | assumption)
                            have q337 : x10_1 < (l1.length : Int) := of_decide_eq_true (by first | (with_reducible assumption) | assumption)
                            obtain ⟨ad337, e337, hx337_0, hx337_1, hx337_2⟩ := at_T51 HR1.out x10_1 p337 q337
                            cases e337
                            replace hx337_0 := (HB.out.cell (World.block_lt_of_cell? w _ hx337_0)).trans hx337_0
                            replace hx337_1 := (HB.out.cell (World.block_lt_of_cell? w _ hx337_1)).trans hx337_1
                            replace hx337_2 := (HB.out.cell (World.block_lt_of_cell? w _ hx337_2)).trans hx337_2
                            replace p337 := eq_true p337
                            replace q337 := eq_true q337
                            have p343 : 0 ≤ (x10_1 : Int) := of_decide_eq_true (by first | (with_reducible assumption) | assumption)
                            have q343 : x10_1 < (l1.length : Int) := of_decide_eq_true (by first | (with_reducible assumption) | assumption)
                            obtain ⟨ad343, e343, hx343_0, hx343_1, hx343_2⟩ := at_T51 HR1.out x10_1 p343 q343
                            obtain rfl : ad337 = ad343 := (by injection e343)
                            replace hx343_0 := (HB.out.cell (World.block_lt_of_cell? w _ hx343_0)).trans hx343_0
                            replace hx343_1 := (HB.out.cell (World.block_lt_of_cell? w _ hx343_1)).trans hx343_1
                            replace hx343_2 := (HB.out.cell (World.block_lt_of_cell? w _ hx343_2)).trans hx343_2
                            replace p343 := eq_true p343
                            replace q343 := eq_true q343
                            have hcz33_0 : wc.cell? ⟨gb336, 0, none⟩ = some (.int .i64 t332) := (blk_cell BK336.out 0).trans rfl
                            have hcz33_1 : wc.cell? ⟨gb336, 1, none⟩ = some (.int .i64 t333) := (blk_cell BK336.out 1).trans rfl
                            have hcz33_2 : wc.cell? ⟨gb336, 2, none⟩ = some (.string t334) := (blk_cell BK336.out 2).trans rfl
                            have hcz33_3 : wc.cell? ⟨gb336, 3, none⟩ = some (.bool true) := (blk_cell BK336.out 3).trans rfl
                            have hfz33_0 := blk_frozen BK336.out 0
                            have hfz33_1 := blk_frozen BK336.out 1
                            have hfz33_2 := blk_frozen BK336.out 2
                            have hfz33_3 := blk_frozen BK336.out 3
                            have p344 : 0 ≤ (x10_1 : Int) := of_decide_eq_true (by first | (with_reducible assumption) | assumption)
                            have q344 : x10_1 < (l1.length : Int) := of_decide_eq_true (by first | (with_reducible assumption) | assumption)
                            obtain ⟨ad344, e344, hx344_0, hx344_1, hx344_2⟩ := at_T51 HR1.out x10_1 p344 q344
                            obtain rfl : ad337 = ad344 := (by injection e344)
                            replace hx344_0 := (HB.out.cell (World.block_lt_of_cell? w _ hx344_0)).trans hx344_0
                            replace hx344_1 := (HB.out.cell (World.block_lt_of_cell? w _ hx344_1)).trans hx344_1
                            replace hx344_2 := (HB.out.cell (World.block_lt_of_cell? w _ hx344_2)).trans hx344_2
                            replace p344 := eq_true p344
                            replace q344 := eq_true q344
                            have p345 : 0 ≤ (x10_1 : Int) := of_decide_eq_true (by first | (with_reducible assumption) | assumption)
                            have q345 : x10_1 < (l1.length : Int) := of_decide_eq_true (by first | (with_reducible assumption) | assumption)
                            obtain ⟨ad345, e345, hx345_0, hx345_1, hx345_2⟩ := at_T51 HR1.out x10_1 p345 q345
                            obtain rfl : ad337 = ad345 := (by injection e345)
                            replace hx345_0 := (HB.out.cell (World.block_lt_of_cell? w _ hx345_0)).trans hx345_0
                            replace hx345_1 := (HB.out.cell (World.block_lt_of_cell? w _ hx345_1)).trans hx345_1
                            replace hx345_2 := (HB.out.cell (World.block_lt_of_cell? w _ hx345_2)).trans hx345_2
                            replace p345 := eq_true p345
                            replace q345 := eq_true q345
                            go_wp2
                            repeat (go_quiet (fail); try go_wp2)
                            go_meet
                            case rel => exact ⟨_, ((((rd_T51 l1 x10_1).f0) == 2)), (by first | rfl | (simp; done) | (simp [*]; done)), H', ⟨by have := HK1.out; have := HJ14.out; first | omega | exact Nat.le_refl _⟩, ⟨by (with_reducible repeat (first | apply Kd.V_alloc | apply Kd.V_drewN | apply Kd.V_drew)); exact HO_8.out⟩, ⟨by (with_reducible repeat (first | refine blk_drewN ?_ _ | refine blk_drew ?_ | refine blk_alloc ?_ _)); exact BK336.out⟩, ⟨by repeat (first | (with_reducible first | exact HB.out | apply below_alloc | apply pw_below_drewN | apply below_drew1 | refine below_set ?_ GE336.out) | exact HB.out)⟩⟩
                          · replace c32 := Bool.eq_false_iff.mpr c32
                            subst c32
                            have H1 : (ogivelaw10_ChainStays.j2 kj14 l1 a2 t325 x8_1 x10_1 true t332 t333 t334 false) = some r := by rw [if_neg (show ¬ (false = true) by decide)] at H; exact H
                            clear H
                            have H := H1
                            clear H1
                            have H' := Aside0.mk H
                            clear H
                            have p337 : 0 ≤ (x10_1 : Int) := of_decide_eq_true (by first | (with_reducible assumption) | assumption)
                            have q337 : x10_1 < (l1.length : Int) := of_decide_eq_true (by first | (with_reducible assumption) | assumption)
                            obtain ⟨ad337, e337, hx337_0, hx337_1, hx337_2⟩ := at_T51 HR1.out x10_1 p337 q337
                            cases e337
                            replace hx337_0 := (HB.out.cell (World.block_lt_of_cell? w _ hx337_0)).trans hx337_0
                            replace hx337_1 := (HB.out.cell (World.block_lt_of_cell? w _ hx337_1)).trans hx337_1
                            replace hx337_2 := (HB.out.cell (World.block_lt_of_cell? w _ hx337_2)).trans hx337_2
                            replace p337 := eq_true p337
                            replace q337 := eq_true q337
                            have p343 : 0 ≤ (x10_1 : Int) := of_decide_eq_true (by first | (with_reducible assumption) | assumption)
                            have q343 : x10_1 < (l1.length : Int) := of_decide_eq_true (by first | (with_reducible assumption) | assumption)
                            obtain ⟨ad343, e343, hx343_0, hx343_1, hx343_2⟩ := at_T51 HR1.out x10_1 p343 q343
                            obtain rfl : ad337 = ad343 := (by injection e343)
                            replace hx343_0 := (HB.out.cell (World.block_lt_of_cell? w _ hx343_0)).trans hx343_0
                            replace hx343_1 := (HB.out.cell (World.block_lt_of_cell? w _ hx343_1)).trans hx343_1
                            replace hx343_2 := (HB.out.cell (World.block_lt_of_cell? w _ hx343_2)).trans hx343_2
                            replace p343 := eq_true p343
                            replace q343 := eq_true q343
                            have hcz34_0 : wc.cell? ⟨gb336, 0, none⟩ = some (.int .i64 t332) := (blk_cell BK336.out 0).trans rfl
                            have hcz34_1 : wc.cell? ⟨gb336, 1, none⟩ = some (.int .i64 t333) := (blk_cell BK336.out 1).trans rfl
                            have hcz34_2 : wc.cell? ⟨gb336, 2, none⟩ = some (.string t334) := (blk_cell BK336.out 2).trans rfl
                            have hcz34_3 : wc.cell? ⟨gb336, 3, none⟩ = some (.bool false) := (blk_cell BK336.out 3).trans rfl
                            have hfz34_0 := blk_frozen BK336.out 0
                            have hfz34_1 := blk_frozen BK336.out 1
                            have hfz34_2 := blk_frozen BK336.out 2
                            have hfz34_3 := blk_frozen BK336.out 3
                            have p344 : 0 ≤ (x10_1 : Int) := of_decide_eq_true (by first | (with_reducible assumption) | assumption)
                            have q344 : x10_1 < (l1.length : Int) := of_decide_eq_true (by first | (with_reducible assumption) | assumption)
                            obtain ⟨ad344, e344, hx344_0, hx344_1, hx344_2⟩ := at_T51 HR1.out x10_1 p344 q344
                            obtain rfl : ad337 = ad344 := (by injection e344)
                            replace hx344_0 := (HB.out.cell (World.block_lt_of_cell? w _ hx344_0)).trans hx344_0
                            replace hx344_1 := (HB.out.cell (World.block_lt_of_cell? w _ hx344_1)).trans hx344_1
                            replace hx344_2 := (HB.out.cell (World.block_lt_of_cell? w _ hx344_2)).trans hx344_2
                            replace p344 := eq_true p344
                            replace q344 := eq_true q344
                            go_wp2
                            repeat (go_quiet (fail); try go_wp2)
                            go_meet
                            case rel => exact ⟨_, (true), (by first | rfl | (simp; done) | (simp [*]; done)), H', ⟨by have := HK1.out; have := HJ14.out; first | omega | exact Nat.le_refl _⟩, ⟨by (with_reducible repeat (first | apply Kd.V_alloc | apply Kd.V_drewN | apply Kd.V_drew)); exact HO_8.out⟩, ⟨by (with_reducible repeat (first | refine blk_drewN ?_ _ | refine blk_drew ?_ | refine blk_alloc ?_ _)); exact BK336.out⟩, ⟨by repeat (first | (with_reducible first | exact HB.out | apply below_alloc | apply pw_below_drewN | apply below_drew1 | refine below_set ?_ GE336.out) | exact HB.out)⟩⟩
                        · rw [if_neg c31] at H
                          have c31b0 : (((rd_T51 l1 x10_1).f0) == 4) = false := beq_eq_false_iff_ne.mpr c31
                          have c31b1 : (((rd_T51 l1 x10_1).f0) != 4) = true := bne_iff_ne.mpr c31
                          have H' := Aside0.mk H
                          clear H
                          have p337 : 0 ≤ (x10_1 : Int) := of_decide_eq_true (by first | (with_reducible assumption) | assumption)
                          have q337 : x10_1 < (l1.length : Int) := of_decide_eq_true (by first | (with_reducible assumption) | assumption)
                          obtain ⟨ad337, e337, hx337_0, hx337_1, hx337_2⟩ := at_T51 HR1.out x10_1 p337 q337
                          cases e337
                          replace hx337_0 := (HB.out.cell (World.block_lt_of_cell? w _ hx337_0)).trans hx337_0
                          replace hx337_1 := (HB.out.cell (World.block_lt_of_cell? w _ hx337_1)).trans hx337_1
                          replace hx337_2 := (HB.out.cell (World.block_lt_of_cell? w _ hx337_2)).trans hx337_2
                          replace p337 := eq_true p337
                          replace q337 := eq_true q337
                          have p343 : 0 ≤ (x10_1 : Int) := of_decide_eq_true (by first | (with_reducible assumption) | assumption)
                          have q343 : x10_1 < (l1.length : Int) := of_decide_eq_true (by first | (with_reducible assumption) | assumption)
                          obtain ⟨ad343, e343, hx343_0, hx343_1, hx343_2⟩ := at_T51 HR1.out x10_1 p343 q343
                          obtain rfl : ad337 = ad343 := (by injection e343)
                          replace hx343_0 := (HB.out.cell (World.block_lt_of_cell? w _ hx343_0)).trans hx343_0
                          replace hx343_1 := (HB.out.cell (World.block_lt_of_cell? w _ hx343_1)).trans hx343_1
                          replace hx343_2 := (HB.out.cell (World.block_lt_of_cell? w _ hx343_2)).trans hx343_2
                          replace p343 := eq_true p343
                          replace q343 := eq_true q343
                          have hcz35_0 : wc.cell? ⟨gb336, 0, none⟩ = some (.int .i64 t332) := (blk_cell BK336.out 0).trans rfl
                          have hcz35_1 : wc.cell? ⟨gb336, 1, none⟩ = some (.int .i64 t333) := (blk_cell BK336.out 1).trans rfl
                          have hcz35_2 : wc.cell? ⟨gb336, 2, none⟩ = some (.string t334) := (blk_cell BK336.out 2).trans rfl
                          have hcz35_3 : wc.cell? ⟨gb336, 3, none⟩ = some (.bool t335) := (blk_cell BK336.out 3).trans rfl
                          have hfz35_0 := blk_frozen BK336.out 0
                          have hfz35_1 := blk_frozen BK336.out 1
                          have hfz35_2 := blk_frozen BK336.out 2
                          have hfz35_3 := blk_frozen BK336.out 3
                          have p344 : 0 ≤ (x10_1 : Int) := of_decide_eq_true (by first | (with_reducible assumption) | assumption)
                          have q344 : x10_1 < (l1.length : Int) := of_decide_eq_true (by first | (with_reducible assumption) | assumption)
                          obtain ⟨ad344, e344, hx344_0, hx344_1, hx344_2⟩ := at_T51 HR1.out x10_1 p344 q344
                          obtain rfl : ad337 = ad344 := (by injection e344)
                          replace hx344_0 := (HB.out.cell (World.block_lt_of_cell? w _ hx344_0)).trans hx344_0
                          replace hx344_1 := (HB.out.cell (World.block_lt_of_cell? w _ hx344_1)).trans hx344_1
                          replace hx344_2 := (HB.out.cell (World.block_lt_of_cell? w _ hx344_2)).trans hx344_2
                          replace p344 := eq_true p344
                          replace q344 := eq_true q344
                          have p346 : 0 ≤ (x10_1 : Int) := of_decide_eq_true (by first | (with_reducible assumption) | assumption)
                          have q346 : x10_1 < (l1.length : Int) := of_decide_eq_true (by first | (with_reducible assumption) | assumption)
                          obtain ⟨ad346, e346, hx346_0, hx346_1, hx346_2⟩ := at_T51 HR1.out x10_1 p346 q346
                          obtain rfl : ad337 = ad346 := (by injection e346)
                          replace hx346_0 := (HB.out.cell (World.block_lt_of_cell? w _ hx346_0)).trans hx346_0
                          replace hx346_1 := (HB.out.cell (World.block_lt_of_cell? w _ hx346_1)).trans hx346_1
                          replace hx346_2 := (HB.out.cell (World.block_lt_of_cell? w _ hx346_2)).trans hx346_2
                          replace p346 := eq_true p346
                          replace q346 := eq_true q346
                          go_wp2
                          repeat (go_quiet (fail); try go_wp2)
                          go_meet
                          case rel => exact ⟨_, ((((rd_T51 l1 x10_1).f0) == 2)), (by first | rfl | (simp; done) | (simp [*]; done)), H', ⟨by have := HK1.out; have := HJ14.out; first | omega | exact Nat.le_refl _⟩, ⟨by (with_reducible repeat (first | apply Kd.V_alloc | apply Kd.V_drewN | apply Kd.V_drew)); exact HO_8.out⟩, ⟨by (with_reducible repeat (first | refine blk_drewN ?_ _ | refine blk_drew ?_ | refine blk_alloc ?_ _)); exact BK336.out⟩, ⟨by repeat (first | (with_reducible first | exact HB.out | apply below_alloc | apply pw_below_drewN | apply below_drew1 | refine below_set ?_ GE336.out) | exact HB.out)⟩⟩
                      · rw [if_neg c30] at H
                        have c30b0 : (((rd_T51 l1 x10_1).f1) == t332) = false := beq_eq_false_iff_ne.mpr c30
                        have c30b1 : (((rd_T51 l1 x10_1).f1) != t332) = true := bne_iff_ne.mpr c30
                        have H' := Aside0.mk H
                        clear H
                        have p337 : 0 ≤ (x10_1 : Int) := of_decide_eq_true (by first | (with_reducible assumption) | assumption)
                        have q337 : x10_1 < (l1.length : Int) := of_decide_eq_true (by first | (with_reducible assumption) | assumption)
                        obtain ⟨ad337, e337, hx337_0, hx337_1, hx337_2⟩ := at_T51 HR1.out x10_1 p337 q337
                        cases e337
                        replace hx337_0 := (HB.out.cell (World.block_lt_of_cell? w _ hx337_0)).trans hx337_0
                        replace hx337_1 := (HB.out.cell (World.block_lt_of_cell? w _ hx337_1)).trans hx337_1
                        replace hx337_2 := (HB.out.cell (World.block_lt_of_cell? w _ hx337_2)).trans hx337_2
                        replace p337 := eq_true p337
                        replace q337 := eq_true q337
                        have p343 : 0 ≤ (x10_1 : Int) := of_decide_eq_true (by first | (with_reducible assumption) | assumption)
                        have q343 : x10_1 < (l1.length : Int) := of_decide_eq_true (by first | (with_reducible assumption) | assumption)
                        obtain ⟨ad343, e343, hx343_0, hx343_1, hx343_2⟩ := at_T51 HR1.out x10_1 p343 q343
                        obtain rfl : ad337 = ad343 := (by injection e343)
                        replace hx343_0 := (HB.out.cell (World.block_lt_of_cell? w _ hx343_0)).trans hx343_0
                        replace hx343_1 := (HB.out.cell (World.block_lt_of_cell? w _ hx343_1)).trans hx343_1
                        replace hx343_2 := (HB.out.cell (World.block_lt_of_cell? w _ hx343_2)).trans hx343_2
                        replace p343 := eq_true p343
                        replace q343 := eq_true q343
                        have hcz36_0 : wc.cell? ⟨gb336, 0, none⟩ = some (.int .i64 t332) := (blk_cell BK336.out 0).trans rfl
                        have hcz36_1 : wc.cell? ⟨gb336, 1, none⟩ = some (.int .i64 t333) := (blk_cell BK336.out 1).trans rfl
                        have hcz36_2 : wc.cell? ⟨gb336, 2, none⟩ = some (.string t334) := (blk_cell BK336.out 2).trans rfl
                        have hcz36_3 : wc.cell? ⟨gb336, 3, none⟩ = some (.bool t335) := (blk_cell BK336.out 3).trans rfl
                        have hfz36_0 := blk_frozen BK336.out 0
                        have hfz36_1 := blk_frozen BK336.out 1
                        have hfz36_2 := blk_frozen BK336.out 2
                        have hfz36_3 := blk_frozen BK336.out 3
                        go_wp2
                        repeat (go_quiet (fail); try go_wp2)
                        go_meet
                        case rel => exact ⟨_, (false), (by first | rfl | (simp; done) | (simp [*]; done)), H', ⟨by have := HK1.out; have := HJ14.out; first | omega | exact Nat.le_refl _⟩, ⟨by (with_reducible repeat (first | apply Kd.V_alloc | apply Kd.V_drewN | apply Kd.V_drew)); exact HO_8.out⟩, ⟨by (with_reducible repeat (first | refine blk_drewN ?_ _ | refine blk_drew ?_ | refine blk_alloc ?_ _)); exact BK336.out⟩, ⟨by repeat (first | (with_reducible first | exact HB.out | apply below_alloc | apply pw_below_drewN | apply below_drew1 | refine below_set ?_ GE336.out) | exact HB.out)⟩⟩
                  · rw [if_neg c20] at H
                    exact absurd H (by simp)
                · rw [if_neg c19] at H
                  exact absurd H (by simp)
              case rest =>
                clear HC18
                try clear c1
                try clear c2
                try clear p2
                try clear c3
                try clear p3
                try clear q3
                try clear hx3
                try clear c5
                try clear c5b0
                try clear c16
                try clear c16b0
                try clear c17
                try clear c19
                try clear c19b0
                try clear c20
                try clear c20b0
                try clear c21
                try clear c21b0
                try clear c21b1
                try clear c22
                try clear c22b0
                try clear c22b1
                try clear c23
                try clear c23b0
                try clear c23b1
                try clear c24
                try clear c24b0
                try clear c24b1
                try clear c25
                try clear c30
                try clear c30b0
                try clear c30b1
                try clear c31
                try clear c31b0
                try clear c31b1
                try clear c32
                try clear p33
                try clear q33
                try clear hx33
                try clear p34
                try clear q34
                try clear hx34
                try clear hcz14_0
                try clear hcz14_1
                try clear hcz14_2
                try clear hcz14_3
                try clear hcz26_0
                try clear hcz26_1
                try clear hcz26_2
                try clear hcz26_3
                try clear hcz27_0
                try clear hcz27_1
                try clear hcz27_2
                try clear hcz27_3
                try clear hcz28_0
                try clear hcz28_1
                try clear hcz28_2
                try clear hcz28_3
                try clear hcz29_0
                try clear hcz29_1
                try clear hcz29_2
                try clear hcz29_3
                try clear hcz33_0
                try clear hcz33_1
                try clear hcz33_2
                try clear hcz33_3
                try clear hcz34_0
                try clear hcz34_1
                try clear hcz34_2
                try clear hcz34_3
                try clear hcz35_0
                try clear hcz35_1
                try clear hcz35_2
                try clear hcz35_3
                try clear hcz36_0
                try clear hcz36_1
                try clear hcz36_2
                try clear hcz36_3
                try clear hfz14_0
                try clear hfz14_1
                try clear hfz14_2
                try clear hfz14_3
                try clear hfz26_0
                try clear hfz26_1
                try clear hfz26_2
                try clear hfz26_3
                try clear hfz27_0
                try clear hfz27_1
                try clear hfz27_2
                try clear hfz27_3
                try clear hfz28_0
                try clear hfz28_1
                try clear hfz28_2
                try clear hfz28_3
                try clear hfz29_0
                try clear hfz29_1
                try clear hfz29_2
                try clear hfz29_3
                try clear hfz33_0
                try clear hfz33_1
                try clear hfz33_2
                try clear hfz33_3
                try clear hfz34_0
                try clear hfz34_1
                try clear hfz34_2
                try clear hfz34_3
                try clear hfz35_0
                try clear hfz35_1
                try clear hfz35_2
                try clear hfz35_3
                try clear hfz36_0
                try clear hfz36_1
                try clear hfz36_2
                try clear hfz36_3
                try clear hx337_0
                try clear hx337_1
                try clear hx337_2
                try clear hx338_0
                try clear hx338_1
                try clear hx338_2
                try clear hx339_0
                try clear hx339_1
                try clear hx339_2
                try clear hx340_0
                try clear hx340_1
                try clear hx340_2
                try clear hx341_0
                try clear hx341_1
                try clear hx341_2
                try clear hx342_0
                try clear hx342_1
                try clear hx342_2
                try clear hx343_0
                try clear hx343_1
                try clear hx343_2
                try clear hx344_0
                try clear hx344_1
                try clear hx344_2
                try clear hx345_0
                try clear hx345_1
                try clear hx345_2
                try clear hx346_0
                try clear hx346_1
                try clear hx346_2
                try clear p2
                try clear p337
                try clear p338
                try clear p339
                try clear p340
                try clear p341
                try clear p342
                try clear p343
                try clear p344
                try clear p345
                try clear p346
                try clear q337
                try clear q338
                try clear q339
                try clear q340
                try clear q341
                try clear q342
                try clear q343
                try clear q344
                try clear q345
                try clear q346
                obtain ⟨kq, x79_17, rfl, HA, HJ17, HO_8, BK336, HB⟩ := hcut
                cases kq with
                | zero => exact absurd HA.out (by simp [ogivelaw10_ChainStays.j2])
                | succ kj17 =>
                  have H := HA.out
                  clear HA
                  simp only [ogivelaw10_ChainStays.j2] at H
                  by_cases c37 : x79_17 = true
                  · subst c37
                    have H1 : (ogivelaw10_ChainStays.l0 kj17 l1 a2 t325 x8_1 (wrap64 (x10_1 + 1)) t332 t333 t334 t335) = some r := by rw [if_pos rfl] at H; exact H
                    clear H
                    have H := H1
                    clear H1
                    have H' := Aside0.mk H
                    clear H
                    go_wp2
                    repeat (go_quiet (fail); try go_wp2)
                    go_roundg kj17
                    case measure => have := HK1.out; have := HJ14.out; have := HJ17.out; omega
                    case rel => exact ⟨(x8_1), (wrap64 (x10_1 + 1)), (by first | rfl | (simp; done) | (simp [*]; done)), H', ⟨by have := HK1.out; have := HJ14.out; have := HJ17.out; omega⟩, ⟨by (with_reducible repeat (first | apply Kd.V_alloc | apply Kd.V_drewN | apply Kd.V_drew)); exact HO_8.out⟩, ⟨by (with_reducible repeat (first | refine blk_drewN ?_ _ | refine blk_drew ?_ | refine blk_alloc ?_ _)); exact BK336.out⟩, ⟨by repeat (first | (with_reducible first | exact HB.out | apply below_alloc | apply pw_below_drewN | apply below_drew1 | refine below_set ?_ GE336.out) | exact HB.out)⟩⟩
                  · replace c37 := Bool.eq_false_iff.mpr c37
                    subst c37
                    have H1 : (if 0 ≤ x10_1 then (if x10_1 < (l1.length : Int) then ((ogivelaw10_do.f kj17 x8_1 ((rd_T51 l1 x10_1).f0) ((rd_T51 l1 x10_1).f1) ((rd_T51 l1 x10_1).f2)).bind fun t348 => ((chain_Read.f kj17 t348 a2).bind fun bt351 => (if bt351.2.1 = t332 then (if bt351.2.2.2.1.toList = t334.toList then (ogivelaw10_ChainStays.l0 kj17 l1 a2 t325 t348 (wrap64 (x10_1 + 1)) t332 t333 t334 t335) else (some false)) else (some false)))) else (none)) else (none)) = some r := by rw [if_neg (show ¬ (false = true) by decide)] at H; exact H
                    clear H
                    have H := H1
                    clear H1
                    by_cases c38 : 0 ≤ x10_1
                    · rw [if_pos c38] at H
                      have c38b0 : decide (0 ≤ x10_1) = true := decide_eq_true c38
                      clear c38
                      by_cases c39 : x10_1 < (l1.length : Int)
                      · rw [if_pos c39] at H
                        have c39b0 : decide (x10_1 < (l1.length : Int)) = true := decide_eq_true c39
                        clear c39
                        replace H := Option.bind_eq_some_iff.mp H
                        obtain ⟨t348, A400, H⟩ := H
                        replace H : ((chain_Read.f kj17 t348 a2).bind fun bt351 => (if bt351.2.1 = t332 then (if bt351.2.2.2.1.toList = t334.toList then (ogivelaw10_ChainStays.l0 kj17 l1 a2 t325 t348 (wrap64 (x10_1 + 1)) t332 t333 t334 t335) else (some false)) else (some false))) = some r := H
                        have A40 := Aside0.mk A400
                        clear A400
                        replace H := Option.bind_eq_some_iff.mp H
                        obtain ⟨⟨t351, t354, t355, t356, t357⟩, A410, H⟩ := H
                        replace H : (if t354 = t332 then (if t356.toList = t334.toList then (ogivelaw10_ChainStays.l0 kj17 l1 a2 t325 t348 (wrap64 (x10_1 + 1)) t332 t333 t334 t335) else (some false)) else (some false)) = some r := H
                        have A41 := Aside0.mk A410
                        clear A410
                        by_cases c42 : t354 = t332
                        · rw [if_pos c42] at H
                          have c42b0 : (t354 == t332) = true := beq_iff_eq.mpr c42
                          have c42b1 : (t354 != t332) = false := bne_eq_false_iff_eq.mpr c42
                          clear c42
                          by_cases c43 : t356.toList = t334.toList
                          · rw [if_pos c43] at H
                            have c43b0 : (t356.toList == t334.toList) = true := beq_iff_eq.mpr c43
                            have c43b1 : (t356.toList != t334.toList) = false := bne_eq_false_iff_eq.mpr c43
                            clear c43
                            have H' := Aside0.mk H
                            clear H
                            have p347 : 0 ≤ (x10_1 : Int) := of_decide_eq_true (by first | (with_reducible assumption) | assumption)
                            have q347 : x10_1 < (l1.length : Int) := of_decide_eq_true (by first | (with_reducible assumption) | assumption)
                            obtain ⟨ad347, e347, hx347_0, hx347_1, hx347_2⟩ := at_T51 HR1.out x10_1 p347 q347
                            cases e347
                            replace hx347_0 := (HB.out.cell (World.block_lt_of_cell? w _ hx347_0)).trans hx347_0
                            replace hx347_1 := (HB.out.cell (World.block_lt_of_cell? w _ hx347_1)).trans hx347_1
                            replace hx347_2 := (HB.out.cell (World.block_lt_of_cell? w _ hx347_2)).trans hx347_2
                            replace p347 := eq_true p347
                            replace q347 := eq_true q347
                            obtain ⟨Ao44, co44, eo44⟩ := Kd.V_slice HO_8.out
                            subst eo44
                            go_wp2_with (first | (go_at_call 26; (with_reducible refine (ogivelaw10_do.calls kj17 (fun k_ => k_ ≠ gb336) _ _ x8_1 ((rd_T51 l1 x10_1).f0) ((rd_T51 l1 x10_1).f1) ((rd_T51 l1 x10_1).f2) t348 _ ?side1 A40.out).mono ?_); (case side1 => exact HO_8.out); rintro e w45 ⟨v349, rfl, ho0, hb⟩; have n0_ := Aside0.mk (Kd.V_below (by (with_reducible repeat (first | apply Kd.V_alloc | apply Kd.V_drewN | apply Kd.V_drew)); exact HO_8.out) hb); have n1_ := Aside0.mk (Kd.V_lower (Kd.V_mono (ok' := fun k_ => k_ ≠ gb336) ho0 (fun k_ hk_ => Or.elim hk_ (fun hs_ => hs_) (fun hn_ => (Kd.freshB (g := gb336) (o := .cells #[.int .i64 t332, .int .i64 t333, .string t334, .bool t335] 27 (0, 0)) (by (with_reducible repeat (first | refine blk_drewN ?_ _ | refine blk_drew ?_ | refine blk_alloc ?_ _)); exact BK336.out) k_ hn_)))) (below_size (by repeat (first | (with_reducible first | exact HB.out | apply below_alloc | apply pw_below_drewN | apply below_drew1 | refine below_set ?_ GE336.out) | exact HB.out)))); have n2_ := Aside0.mk (blk_below (g := gb336) (o := .cells #[.int .i64 t332, .int .i64 t333, .string t334, .bool t335] 27 (0, 0)) (by (with_reducible repeat (first | refine blk_drewN ?_ _ | refine blk_drew ?_ | refine blk_alloc ?_ _)); exact BK336.out) hb); have n3_ := Aside0.mk (below_step (by repeat (first | (with_reducible first | exact HB.out | apply below_alloc | apply pw_below_drewN | apply below_drew1 | refine below_set ?_ GE336.out) | exact HB.out)) hb); clear HO_8; clear BK336; clear HB; have HO_8 := n0_; have HO350 := n1_; have BK336 := n2_; have HB := n3_; clear n0_ n1_ n2_ n3_; (try clear hb); (try clear hb2); (try clear hk); (try clear hi); (try clear ho0); obtain ⟨Ao46, co46, eo46⟩ := Kd.V_slice HO350.out; subst eo46) | (go_at_call 11; (with_reducible refine (chain_Read.calls kj17 (fun k_ => k_ ≠ gb336) _ _ t348 a2 t351 t354 t355 t356 t357 _ ?side1 A41.out).mono ?_); (case side1 => exact HO350.out); rintro e w47 ⟨v352, rfl, ho0, hb⟩; have n0_ := Aside0.mk (Kd.V_below (by (with_reducible repeat (first | apply Kd.V_alloc | apply Kd.V_drewN | apply Kd.V_drew)); exact HO_8.out) hb); have n1_ := Aside0.mk (Kd.V_below (by (with_reducible repeat (first | apply Kd.V_alloc | apply Kd.V_drewN | apply Kd.V_drew)); exact HO350.out) hb); have n2_ := Aside0.mk (Kd.V_lower (Kd.V_mono (ok' := fun k_ => k_ ≠ gb336) ho0 (fun k_ hk_ => Or.elim hk_ (fun hs_ => hs_) (fun hn_ => (Kd.freshB (g := gb336) (o := .cells #[.int .i64 t332, .int .i64 t333, .string t334, .bool t335] 27 (0, 0)) (by (with_reducible repeat (first | refine blk_drewN ?_ _ | refine blk_drew ?_ | refine blk_alloc ?_ _)); exact BK336.out) k_ hn_)))) (below_size (by repeat (first | (with_reducible first | exact HB.out | apply below_alloc | apply pw_below_drewN | apply below_drew1 | refine below_set ?_ GE336.out) | exact HB.out)))); have n3_ := Aside0.mk (blk_below (g := gb336) (o := .cells #[.int .i64 t332, .int .i64 t333, .string t334, .bool t335] 27 (0, 0)) (by (with_reducible repeat (first | refine blk_drewN ?_ _ | refine blk_drew ?_ | refine blk_alloc ?_ _)); exact BK336.out) hb); have n4_ := Aside0.mk (below_step (by repeat (first | (with_reducible first | exact HB.out | apply below_alloc | apply pw_below_drewN | apply below_drew1 | refine below_set ?_ GE336.out) | exact HB.out)) hb); clear HO_8; clear HO350; clear BK336; clear HB; have HO_8 := n0_; have HO350 := n1_; have HO353 := n2_; have BK336 := n3_; have HB := n4_; clear n0_ n1_ n2_ n3_ n4_; (try clear hb); (try clear hb2); (try clear hk); (try clear hi); (try clear ho0)) | ((with_reducible refine gate_dst (N := 12) rfl ?_); refine box_event ?hg (N := 12) ?hd (cs := #[.int .i64 0, .int .i64 0, .string (⟨#[]⟩ : ByteArray), .bool false]) (t := 27) ?hr ?_; (case hd => rfl); (case hg => rfl); (case hr => first | (go_simp; done) | (go_simp; rfl)); intro gb358 hg w48 hbox hb; have n0_ := Aside0.mk (Kd.V_below (Kd.V_elderB (by (with_reducible repeat (first | apply Kd.V_alloc | apply Kd.V_drewN | apply Kd.V_drew)); exact HO_8.out) gb358 (Nat.le_of_eq hg.symm)) hb); have n1_ := Aside0.mk (Kd.V_below (Kd.V_elderB (by (with_reducible repeat (first | apply Kd.V_alloc | apply Kd.V_drewN | apply Kd.V_drew)); exact HO350.out) gb358 (Nat.le_of_eq hg.symm)) hb); have n2_ := Aside0.mk (Kd.V_below (Kd.V_elderB (by (with_reducible repeat (first | apply Kd.V_alloc | apply Kd.V_drewN | apply Kd.V_drew)); exact HO353.out) gb358 (Nat.le_of_eq hg.symm)) hb); have n3_ := Aside0.mk (blk_below (g := gb336) (o := .cells #[.int .i64 t332, .int .i64 t333, .string t334, .bool t335] 27 (0, 0)) (by (with_reducible repeat (first | refine blk_drewN ?_ _ | refine blk_drew ?_ | refine blk_alloc ?_ _)); exact BK336.out) hb); have n4_ := Aside0.mk (below_step (by repeat (first | (with_reducible first | exact HB.out | apply below_alloc | apply pw_below_drewN | apply below_drew1 | refine below_set ?_ GE336.out) | exact HB.out)) hb); have n5_ := Aside0.mk (hbox); have n6_ := Aside0.mk ((by rw [hg]; exact (below_size (by repeat (first | (with_reducible first | exact HB.out | apply below_alloc | apply pw_below_drewN | apply below_drew1 | refine below_set ?_ GE336.out) | exact HB.out))) : w.heap.size ≤ gb358)); have n7_ := Aside0.mk ((by rw [hg]; exact (below_size (by repeat (first | (with_reducible first | exact HB.out | apply below_alloc | apply pw_below_drewN | apply below_drew1 | refine below_set ?_ GE336.out) | exact HB.out))) : w.heap.size ≤ gb358)); have n8_ := Aside0.mk ((by rw [hg]; exact Nat.ne_of_lt (blk_lt (g := gb336) (o := .cells #[.int .i64 t332, .int .i64 t333, .string t334, .bool t335] 27 (0, 0)) (by (with_reducible repeat (first | refine blk_drewN ?_ _ | refine blk_drew ?_ | refine blk_alloc ?_ _)); exact BK336.out)) : gb336 ≠ gb358)); have n9_ := Aside0.mk ((by rw [hg]; exact Nat.ne_of_gt (blk_lt (g := gb336) (o := .cells #[.int .i64 t332, .int .i64 t333, .string t334, .bool t335] 27 (0, 0)) (by (with_reducible repeat (first | refine blk_drewN ?_ _ | refine blk_drew ?_ | refine blk_alloc ?_ _)); exact BK336.out)) : gb358 ≠ gb336)); clear HO_8; clear HO350; clear HO353; clear BK336; clear HB; have HO_8 := n0_; have HO350 := n1_; have HO353 := n2_; have BK336 := n3_; have HB := n4_; have BK358 := n5_; have GW358 := n6_; have GE358 := n7_; have NB336_358 := n8_; have NB358_336 := n9_; clear n0_ n1_ n2_ n3_ n4_ n5_ n6_ n7_ n8_ n9_; clear hb hbox hg; have hnb49 := NB358_336.out; have hnc49 := NB336_358.out; have hcz50_0 : w48.cell? ⟨gb358, 0, none⟩ = some (.int .i64 0) := (blk_cell BK358.out 0).trans rfl; have hcz50_1 : w48.cell? ⟨gb358, 1, none⟩ = some (.int .i64 0) := (blk_cell BK358.out 1).trans rfl; have hcz50_2 : w48.cell? ⟨gb358, 2, none⟩ = some (.string (⟨#[]⟩ : ByteArray)) := (blk_cell BK358.out 2).trans rfl; have hcz50_3 : w48.cell? ⟨gb358, 3, none⟩ = some (.bool false) := (blk_cell BK358.out 3).trans rfl; have hfz50_0 := blk_frozen BK358.out 0; have hfz50_1 := blk_frozen BK358.out 1; have hfz50_2 := blk_frozen BK358.out 2; have hfz50_3 := blk_frozen BK358.out 3; have hcz51_0 : w48.cell? ⟨gb336, 0, none⟩ = some (.int .i64 t332) := (blk_cell BK336.out 0).trans rfl; have hcz51_1 : w48.cell? ⟨gb336, 1, none⟩ = some (.int .i64 t333) := (blk_cell BK336.out 1).trans rfl; have hcz51_2 : w48.cell? ⟨gb336, 2, none⟩ = some (.string t334) := (blk_cell BK336.out 2).trans rfl; have hcz51_3 : w48.cell? ⟨gb336, 3, none⟩ = some (.bool t335) := (blk_cell BK336.out 3).trans rfl; have hfz51_0 := blk_frozen BK336.out 0; have hfz51_1 := blk_frozen BK336.out 1; have hfz51_2 := blk_frozen BK336.out 2; have hfz51_3 := blk_frozen BK336.out 3))
                            repeat (go_quiet (first | (go_at_call 26; (with_reducible refine (ogivelaw10_do.calls kj17 (fun k_ => k_ ≠ gb336) _ _ x8_1 ((rd_T51 l1 x10_1).f0) ((rd_T51 l1 x10_1).f1) ((rd_T51 l1 x10_1).f2) t348 _ ?side1 A40.out).mono ?_); (case side1 => exact HO_8.out); rintro e w45 ⟨v349, rfl, ho0, hb⟩; have n0_ := Aside0.mk (Kd.V_below (by (with_reducible repeat (first | apply Kd.V_alloc | apply Kd.V_drewN | apply Kd.V_drew)); exact HO_8.out) hb); have n1_ := Aside0.mk (Kd.V_lower (Kd.V_mono (ok' := fun k_ => k_ ≠ gb336) ho0 (fun k_ hk_ => Or.elim hk_ (fun hs_ => hs_) (fun hn_ => (Kd.freshB (g := gb336) (o := .cells #[.int .i64 t332, .int .i64 t333, .string t334, .bool t335] 27 (0, 0)) (by (with_reducible repeat (first | refine blk_drewN ?_ _ | refine blk_drew ?_ | refine blk_alloc ?_ _)); exact BK336.out) k_ hn_)))) (below_size (by repeat (first | (with_reducible first | exact HB.out | apply below_alloc | apply pw_below_drewN | apply below_drew1 | refine below_set ?_ GE336.out) | exact HB.out)))); have n2_ := Aside0.mk (blk_below (g := gb336) (o := .cells #[.int .i64 t332, .int .i64 t333, .string t334, .bool t335] 27 (0, 0)) (by (with_reducible repeat (first | refine blk_drewN ?_ _ | refine blk_drew ?_ | refine blk_alloc ?_ _)); exact BK336.out) hb); have n3_ := Aside0.mk (below_step (by repeat (first | (with_reducible first | exact HB.out | apply below_alloc | apply pw_below_drewN | apply below_drew1 | refine below_set ?_ GE336.out) | exact HB.out)) hb); clear HO_8; clear BK336; clear HB; have HO_8 := n0_; have HO350 := n1_; have BK336 := n2_; have HB := n3_; clear n0_ n1_ n2_ n3_; (try clear hb); (try clear hb2); (try clear hk); (try clear hi); (try clear ho0); obtain ⟨Ao46, co46, eo46⟩ := Kd.V_slice HO350.out; subst eo46) | (go_at_call 11; (with_reducible refine (chain_Read.calls kj17 (fun k_ => k_ ≠ gb336) _ _ t348 a2 t351 t354 t355 t356 t357 _ ?side1 A41.out).mono ?_); (case side1 => exact HO350.out); rintro e w47 ⟨v352, rfl, ho0, hb⟩; have n0_ := Aside0.mk (Kd.V_below (by (with_reducible repeat (first | apply Kd.V_alloc | apply Kd.V_drewN | apply Kd.V_drew)); exact HO_8.out) hb); have n1_ := Aside0.mk (Kd.V_below (by (with_reducible repeat (first | apply Kd.V_alloc | apply Kd.V_drewN | apply Kd.V_drew)); exact HO350.out) hb); have n2_ := Aside0.mk (Kd.V_lower (Kd.V_mono (ok' := fun k_ => k_ ≠ gb336) ho0 (fun k_ hk_ => Or.elim hk_ (fun hs_ => hs_) (fun hn_ => (Kd.freshB (g := gb336) (o := .cells #[.int .i64 t332, .int .i64 t333, .string t334, .bool t335] 27 (0, 0)) (by (with_reducible repeat (first | refine blk_drewN ?_ _ | refine blk_drew ?_ | refine blk_alloc ?_ _)); exact BK336.out) k_ hn_)))) (below_size (by repeat (first | (with_reducible first | exact HB.out | apply below_alloc | apply pw_below_drewN | apply below_drew1 | refine below_set ?_ GE336.out) | exact HB.out)))); have n3_ := Aside0.mk (blk_below (g := gb336) (o := .cells #[.int .i64 t332, .int .i64 t333, .string t334, .bool t335] 27 (0, 0)) (by (with_reducible repeat (first | refine blk_drewN ?_ _ | refine blk_drew ?_ | refine blk_alloc ?_ _)); exact BK336.out) hb); have n4_ := Aside0.mk (below_step (by repeat (first | (with_reducible first | exact HB.out | apply below_alloc | apply pw_below_drewN | apply below_drew1 | refine below_set ?_ GE336.out) | exact HB.out)) hb); clear HO_8; clear HO350; clear BK336; clear HB; have HO_8 := n0_; have HO350 := n1_; have HO353 := n2_; have BK336 := n3_; have HB := n4_; clear n0_ n1_ n2_ n3_ n4_; (try clear hb); (try clear hb2); (try clear hk); (try clear hi); (try clear ho0)) | ((with_reducible refine gate_dst (N := 12) rfl ?_); refine box_event ?hg (N := 12) ?hd (cs := #[.int .i64 0, .int .i64 0, .string (⟨#[]⟩ : ByteArray), .bool false]) (t := 27) ?hr ?_; (case hd => rfl); (case hg => rfl); (case hr => first | (go_simp; done) | (go_simp; rfl)); intro gb358 hg w48 hbox hb; have n0_ := Aside0.mk (Kd.V_below (Kd.V_elderB (by (with_reducible repeat (first | apply Kd.V_alloc | apply Kd.V_drewN | apply Kd.V_drew)); exact HO_8.out) gb358 (Nat.le_of_eq hg.symm)) hb); have n1_ := Aside0.mk (Kd.V_below (Kd.V_elderB (by (with_reducible repeat (first | apply Kd.V_alloc | apply Kd.V_drewN | apply Kd.V_drew)); exact HO350.out) gb358 (Nat.le_of_eq hg.symm)) hb); have n2_ := Aside0.mk (Kd.V_below (Kd.V_elderB (by (with_reducible repeat (first | apply Kd.V_alloc | apply Kd.V_drewN | apply Kd.V_drew)); exact HO353.out) gb358 (Nat.le_of_eq hg.symm)) hb); have n3_ := Aside0.mk (blk_below (g := gb336) (o := .cells #[.int .i64 t332, .int .i64 t333, .string t334, .bool t335] 27 (0, 0)) (by (with_reducible repeat (first | refine blk_drewN ?_ _ | refine blk_drew ?_ | refine blk_alloc ?_ _)); exact BK336.out) hb); have n4_ := Aside0.mk (below_step (by repeat (first | (with_reducible first | exact HB.out | apply below_alloc | apply pw_below_drewN | apply below_drew1 | refine below_set ?_ GE336.out) | exact HB.out)) hb); have n5_ := Aside0.mk (hbox); have n6_ := Aside0.mk ((by rw [hg]; exact (below_size (by repeat (first | (with_reducible first | exact HB.out | apply below_alloc | apply pw_below_drewN | apply below_drew1 | refine below_set ?_ GE336.out) | exact HB.out))) : w.heap.size ≤ gb358)); have n7_ := Aside0.mk ((by rw [hg]; exact (below_size (by repeat (first | (with_reducible first | exact HB.out | apply below_alloc | apply pw_below_drewN | apply below_drew1 | refine below_set ?_ GE336.out) | exact HB.out))) : w.heap.size ≤ gb358)); have n8_ := Aside0.mk ((by rw [hg]; exact Nat.ne_of_lt (blk_lt (g := gb336) (o := .cells #[.int .i64 t332, .int .i64 t333, .string t334, .bool t335] 27 (0, 0)) (by (with_reducible repeat (first | refine blk_drewN ?_ _ | refine blk_drew ?_ | refine blk_alloc ?_ _)); exact BK336.out)) : gb336 ≠ gb358)); have n9_ := Aside0.mk ((by rw [hg]; exact Nat.ne_of_gt (blk_lt (g := gb336) (o := .cells #[.int .i64 t332, .int .i64 t333, .string t334, .bool t335] 27 (0, 0)) (by (with_reducible repeat (first | refine blk_drewN ?_ _ | refine blk_drew ?_ | refine blk_alloc ?_ _)); exact BK336.out)) : gb358 ≠ gb336)); clear HO_8; clear HO350; clear HO353; clear BK336; clear HB; have HO_8 := n0_; have HO350 := n1_; have HO353 := n2_; have BK336 := n3_; have HB := n4_; have BK358 := n5_; have GW358 := n6_; have GE358 := n7_; have NB336_358 := n8_; have NB358_336 := n9_; clear n0_ n1_ n2_ n3_ n4_ n5_ n6_ n7_ n8_ n9_; clear hb hbox hg; have hnb49 := NB358_336.out; have hnc49 := NB336_358.out; have hcz50_0 : w48.cell? ⟨gb358, 0, none⟩ = some (.int .i64 0) := (blk_cell BK358.out 0).trans rfl; have hcz50_1 : w48.cell? ⟨gb358, 1, none⟩ = some (.int .i64 0) := (blk_cell BK358.out 1).trans rfl; have hcz50_2 : w48.cell? ⟨gb358, 2, none⟩ = some (.string (⟨#[]⟩ : ByteArray)) := (blk_cell BK358.out 2).trans rfl; have hcz50_3 : w48.cell? ⟨gb358, 3, none⟩ = some (.bool false) := (blk_cell BK358.out 3).trans rfl; have hfz50_0 := blk_frozen BK358.out 0; have hfz50_1 := blk_frozen BK358.out 1; have hfz50_2 := blk_frozen BK358.out 2; have hfz50_3 := blk_frozen BK358.out 3; have hcz51_0 : w48.cell? ⟨gb336, 0, none⟩ = some (.int .i64 t332) := (blk_cell BK336.out 0).trans rfl; have hcz51_1 : w48.cell? ⟨gb336, 1, none⟩ = some (.int .i64 t333) := (blk_cell BK336.out 1).trans rfl; have hcz51_2 : w48.cell? ⟨gb336, 2, none⟩ = some (.string t334) := (blk_cell BK336.out 2).trans rfl; have hcz51_3 : w48.cell? ⟨gb336, 3, none⟩ = some (.bool t335) := (blk_cell BK336.out 3).trans rfl; have hfz51_0 := blk_frozen BK336.out 0; have hfz51_1 := blk_frozen BK336.out 1; have hfz51_2 := blk_frozen BK336.out 2; have hfz51_3 := blk_frozen BK336.out 3)); try go_wp2_with (first | (go_at_call 26; (with_reducible refine (ogivelaw10_do.calls kj17 (fun k_ => k_ ≠ gb336) _ _ x8_1 ((rd_T51 l1 x10_1).f0) ((rd_T51 l1 x10_1).f1) ((rd_T51 l1 x10_1).f2) t348 _ ?side1 A40.out).mono ?_); (case side1 => exact HO_8.out); rintro e w45 ⟨v349, rfl, ho0, hb⟩; have n0_ := Aside0.mk (Kd.V_below (by (with_reducible repeat (first | apply Kd.V_alloc | apply Kd.V_drewN | apply Kd.V_drew)); exact HO_8.out) hb); have n1_ := Aside0.mk (Kd.V_lower (Kd.V_mono (ok' := fun k_ => k_ ≠ gb336) ho0 (fun k_ hk_ => Or.elim hk_ (fun hs_ => hs_) (fun hn_ => (Kd.freshB (g := gb336) (o := .cells #[.int .i64 t332, .int .i64 t333, .string t334, .bool t335] 27 (0, 0)) (by (with_reducible repeat (first | refine blk_drewN ?_ _ | refine blk_drew ?_ | refine blk_alloc ?_ _)); exact BK336.out) k_ hn_)))) (below_size (by repeat (first | (with_reducible first | exact HB.out | apply below_alloc | apply pw_below_drewN | apply below_drew1 | refine below_set ?_ GE336.out) | exact HB.out)))); have n2_ := Aside0.mk (blk_below (g := gb336) (o := .cells #[.int .i64 t332, .int .i64 t333, .string t334, .bool t335] 27 (0, 0)) (by (with_reducible repeat (first | refine blk_drewN ?_ _ | refine blk_drew ?_ | refine blk_alloc ?_ _)); exact BK336.out) hb); have n3_ := Aside0.mk (below_step (by repeat (first | (with_reducible first | exact HB.out | apply below_alloc | apply pw_below_drewN | apply below_drew1 | refine below_set ?_ GE336.out) | exact HB.out)) hb); clear HO_8; clear BK336; clear HB; have HO_8 := n0_; have HO350 := n1_; have BK336 := n2_; have HB := n3_; clear n0_ n1_ n2_ n3_; (try clear hb); (try clear hb2); (try clear hk); (try clear hi); (try clear ho0); obtain ⟨Ao46, co46, eo46⟩ := Kd.V_slice HO350.out; subst eo46) | (go_at_call 11; (with_reducible refine (chain_Read.calls kj17 (fun k_ => k_ ≠ gb336) _ _ t348 a2 t351 t354 t355 t356 t357 _ ?side1 A41.out).mono ?_); (case side1 => exact HO350.out); rintro e w47 ⟨v352, rfl, ho0, hb⟩; have n0_ := Aside0.mk (Kd.V_below (by (with_reducible repeat (first | apply Kd.V_alloc | apply Kd.V_drewN | apply Kd.V_drew)); exact HO_8.out) hb); have n1_ := Aside0.mk (Kd.V_below (by (with_reducible repeat (first | apply Kd.V_alloc | apply Kd.V_drewN | apply Kd.V_drew)); exact HO350.out) hb); have n2_ := Aside0.mk (Kd.V_lower (Kd.V_mono (ok' := fun k_ => k_ ≠ gb336) ho0 (fun k_ hk_ => Or.elim hk_ (fun hs_ => hs_) (fun hn_ => (Kd.freshB (g := gb336) (o := .cells #[.int .i64 t332, .int .i64 t333, .string t334, .bool t335] 27 (0, 0)) (by (with_reducible repeat (first | refine blk_drewN ?_ _ | refine blk_drew ?_ | refine blk_alloc ?_ _)); exact BK336.out) k_ hn_)))) (below_size (by repeat (first | (with_reducible first | exact HB.out | apply below_alloc | apply pw_below_drewN | apply below_drew1 | refine below_set ?_ GE336.out) | exact HB.out)))); have n3_ := Aside0.mk (blk_below (g := gb336) (o := .cells #[.int .i64 t332, .int .i64 t333, .string t334, .bool t335] 27 (0, 0)) (by (with_reducible repeat (first | refine blk_drewN ?_ _ | refine blk_drew ?_ | refine blk_alloc ?_ _)); exact BK336.out) hb); have n4_ := Aside0.mk (below_step (by repeat (first | (with_reducible first | exact HB.out | apply below_alloc | apply pw_below_drewN | apply below_drew1 | refine below_set ?_ GE336.out) | exact HB.out)) hb); clear HO_8; clear HO350; clear BK336; clear HB; have HO_8 := n0_; have HO350 := n1_; have HO353 := n2_; have BK336 := n3_; have HB := n4_; clear n0_ n1_ n2_ n3_ n4_; (try clear hb); (try clear hb2); (try clear hk); (try clear hi); (try clear ho0)) | ((with_reducible refine gate_dst (N := 12) rfl ?_); refine box_event ?hg (N := 12) ?hd (cs := #[.int .i64 0, .int .i64 0, .string (⟨#[]⟩ : ByteArray), .bool false]) (t := 27) ?hr ?_; (case hd => rfl); (case hg => rfl); (case hr => first | (go_simp; done) | (go_simp; rfl)); intro gb358 hg w48 hbox hb; have n0_ := Aside0.mk (Kd.V_below (Kd.V_elderB (by (with_reducible repeat (first | apply Kd.V_alloc | apply Kd.V_drewN | apply Kd.V_drew)); exact HO_8.out) gb358 (Nat.le_of_eq hg.symm)) hb); have n1_ := Aside0.mk (Kd.V_below (Kd.V_elderB (by (with_reducible repeat (first | apply Kd.V_alloc | apply Kd.V_drewN | apply Kd.V_drew)); exact HO350.out) gb358 (Nat.le_of_eq hg.symm)) hb); have n2_ := Aside0.mk (Kd.V_below (Kd.V_elderB (by (with_reducible repeat (first | apply Kd.V_alloc | apply Kd.V_drewN | apply Kd.V_drew)); exact HO353.out) gb358 (Nat.le_of_eq hg.symm)) hb); have n3_ := Aside0.mk (blk_below (g := gb336) (o := .cells #[.int .i64 t332, .int .i64 t333, .string t334, .bool t335] 27 (0, 0)) (by (with_reducible repeat (first | refine blk_drewN ?_ _ | refine blk_drew ?_ | refine blk_alloc ?_ _)); exact BK336.out) hb); have n4_ := Aside0.mk (below_step (by repeat (first | (with_reducible first | exact HB.out | apply below_alloc | apply pw_below_drewN | apply below_drew1 | refine below_set ?_ GE336.out) | exact HB.out)) hb); have n5_ := Aside0.mk (hbox); have n6_ := Aside0.mk ((by rw [hg]; exact (below_size (by repeat (first | (with_reducible first | exact HB.out | apply below_alloc | apply pw_below_drewN | apply below_drew1 | refine below_set ?_ GE336.out) | exact HB.out))) : w.heap.size ≤ gb358)); have n7_ := Aside0.mk ((by rw [hg]; exact (below_size (by repeat (first | (with_reducible first | exact HB.out | apply below_alloc | apply pw_below_drewN | apply below_drew1 | refine below_set ?_ GE336.out) | exact HB.out))) : w.heap.size ≤ gb358)); have n8_ := Aside0.mk ((by rw [hg]; exact Nat.ne_of_lt (blk_lt (g := gb336) (o := .cells #[.int .i64 t332, .int .i64 t333, .string t334, .bool t335] 27 (0, 0)) (by (with_reducible repeat (first | refine blk_drewN ?_ _ | refine blk_drew ?_ | refine blk_alloc ?_ _)); exact BK336.out)) : gb336 ≠ gb358)); have n9_ := Aside0.mk ((by rw [hg]; exact Nat.ne_of_gt (blk_lt (g := gb336) (o := .cells #[.int .i64 t332, .int .i64 t333, .string t334, .bool t335] 27 (0, 0)) (by (with_reducible repeat (first | refine blk_drewN ?_ _ | refine blk_drew ?_ | refine blk_alloc ?_ _)); exact BK336.out)) : gb358 ≠ gb336)); clear HO_8; clear HO350; clear HO353; clear BK336; clear HB; have HO_8 := n0_; have HO350 := n1_; have HO353 := n2_; have BK336 := n3_; have HB := n4_; have BK358 := n5_; have GW358 := n6_; have GE358 := n7_; have NB336_358 := n8_; have NB358_336 := n9_; clear n0_ n1_ n2_ n3_ n4_ n5_ n6_ n7_ n8_ n9_; clear hb hbox hg; have hnb49 := NB358_336.out; have hnc49 := NB336_358.out; have hcz50_0 : w48.cell? ⟨gb358, 0, none⟩ = some (.int .i64 0) := (blk_cell BK358.out 0).trans rfl; have hcz50_1 : w48.cell? ⟨gb358, 1, none⟩ = some (.int .i64 0) := (blk_cell BK358.out 1).trans rfl; have hcz50_2 : w48.cell? ⟨gb358, 2, none⟩ = some (.string (⟨#[]⟩ : ByteArray)) := (blk_cell BK358.out 2).trans rfl; have hcz50_3 : w48.cell? ⟨gb358, 3, none⟩ = some (.bool false) := (blk_cell BK358.out 3).trans rfl; have hfz50_0 := blk_frozen BK358.out 0; have hfz50_1 := blk_frozen BK358.out 1; have hfz50_2 := blk_frozen BK358.out 2; have hfz50_3 := blk_frozen BK358.out 3; have hcz51_0 : w48.cell? ⟨gb336, 0, none⟩ = some (.int .i64 t332) := (blk_cell BK336.out 0).trans rfl; have hcz51_1 : w48.cell? ⟨gb336, 1, none⟩ = some (.int .i64 t333) := (blk_cell BK336.out 1).trans rfl; have hcz51_2 : w48.cell? ⟨gb336, 2, none⟩ = some (.string t334) := (blk_cell BK336.out 2).trans rfl; have hcz51_3 : w48.cell? ⟨gb336, 3, none⟩ = some (.bool t335) := (blk_cell BK336.out 3).trans rfl; have hfz51_0 := blk_frozen BK336.out 0; have hfz51_1 := blk_frozen BK336.out 1; have hfz51_2 := blk_frozen BK336.out 2; have hfz51_3 := blk_frozen BK336.out 3)))
                            go_roundg kj17
                            case measure => have := HK1.out; have := HJ14.out; have := HJ17.out; omega
                            case rel => exact ⟨(t348), (wrap64 (x10_1 + 1)), (by first | rfl | (simp; done) | (simp [*]; done)), H', ⟨by have := HK1.out; have := HJ14.out; have := HJ17.out; omega⟩, ⟨by (with_reducible repeat (first | apply Kd.V_alloc | apply Kd.V_drewN | apply Kd.V_drew)); exact Kd.V_mono (Kd.V_far (p := ⟨gb358, 3, none⟩) (Kd.V_far (p := ⟨gb358, 2, none⟩) (Kd.V_far (p := ⟨gb358, 1, none⟩) (Kd.V_far (p := ⟨gb358, 0, none⟩) (Kd.V_mono HO350.out (fun k_ hk => (⟨hk, hk.2⟩ : _ ∧ k_ ≠ gb358))) (fun _ hk => hk.2) (.int .i64 t354)) (fun _ hk => hk.2) (.int .i64 t355)) (fun _ hk => hk.2) (.string t356)) (fun _ hk => hk.2) (.bool t357)) (fun _ hk => hk.1.1)⟩, ⟨by (with_reducible repeat (first | refine blk_drewN ?_ _ | refine blk_drew ?_ | refine blk_alloc ?_ _)); refine blk_far ?_ NB336_358.out _; (with_reducible repeat (first | refine blk_drewN ?_ _ | refine blk_drew ?_ | refine blk_alloc ?_ _)); refine blk_far ?_ NB336_358.out _; (with_reducible repeat (first | refine blk_drewN ?_ _ | refine blk_drew ?_ | refine blk_alloc ?_ _)); refine blk_far ?_ NB336_358.out _; (with_reducible repeat (first | refine blk_drewN ?_ _ | refine blk_drew ?_ | refine blk_alloc ?_ _)); refine blk_far ?_ NB336_358.out _; (with_reducible repeat (first | refine blk_drewN ?_ _ | refine blk_drew ?_ | refine blk_alloc ?_ _)); exact BK336.out⟩, ⟨by repeat (first | (with_reducible first | exact HB.out | apply below_alloc | apply pw_below_drewN | apply below_drew1 | refine below_set ?_ GE336.out | refine below_set ?_ GE358.out) | exact HB.out)⟩⟩
                          · rw [if_neg c43] at H
                            have c43b0 : (t356.toList == t334.toList) = false := beq_eq_false_iff_ne.mpr c43
                            have c43b1 : (t356.toList != t334.toList) = true := bne_iff_ne.mpr c43
                            obtain rfl := Option.some.inj H
                            have p347 : 0 ≤ (x10_1 : Int) := of_decide_eq_true (by first | (with_reducible assumption) | assumption)
                            have q347 : x10_1 < (l1.length : Int) := of_decide_eq_true (by first | (with_reducible assumption) | assumption)
                            obtain ⟨ad347, e347, hx347_0, hx347_1, hx347_2⟩ := at_T51 HR1.out x10_1 p347 q347
                            cases e347
                            replace hx347_0 := (HB.out.cell (World.block_lt_of_cell? w _ hx347_0)).trans hx347_0
                            replace hx347_1 := (HB.out.cell (World.block_lt_of_cell? w _ hx347_1)).trans hx347_1
                            replace hx347_2 := (HB.out.cell (World.block_lt_of_cell? w _ hx347_2)).trans hx347_2
                            replace p347 := eq_true p347
                            replace q347 := eq_true q347
                            obtain ⟨Ao52, co52, eo52⟩ := Kd.V_slice HO_8.out
                            subst eo52
                            go_wp2_with (first | (go_at_call 26; (with_reducible refine (ogivelaw10_do.calls kj17 (fun k_ => k_ ≠ gb336) _ _ x8_1 ((rd_T51 l1 x10_1).f0) ((rd_T51 l1 x10_1).f1) ((rd_T51 l1 x10_1).f2) t348 _ ?side1 A40.out).mono ?_); (case side1 => exact HO_8.out); rintro e w53 ⟨v349, rfl, ho0, hb⟩; have n0_ := Aside0.mk (Kd.V_below (by (with_reducible repeat (first | apply Kd.V_alloc | apply Kd.V_drewN | apply Kd.V_drew)); exact HO_8.out) hb); have n1_ := Aside0.mk (Kd.V_lower (Kd.V_mono (ok' := fun k_ => k_ ≠ gb336) ho0 (fun k_ hk_ => Or.elim hk_ (fun hs_ => hs_) (fun hn_ => (Kd.freshB (g := gb336) (o := .cells #[.int .i64 t332, .int .i64 t333, .string t334, .bool t335] 27 (0, 0)) (by (with_reducible repeat (first | refine blk_drewN ?_ _ | refine blk_drew ?_ | refine blk_alloc ?_ _)); exact BK336.out) k_ hn_)))) (below_size (by repeat (first | (with_reducible first | exact HB.out | apply below_alloc | apply pw_below_drewN | apply below_drew1 | refine below_set ?_ GE336.out) | exact HB.out)))); have n2_ := Aside0.mk (blk_below (g := gb336) (o := .cells #[.int .i64 t332, .int .i64 t333, .string t334, .bool t335] 27 (0, 0)) (by (with_reducible repeat (first | refine blk_drewN ?_ _ | refine blk_drew ?_ | refine blk_alloc ?_ _)); exact BK336.out) hb); have n3_ := Aside0.mk (below_step (by repeat (first | (with_reducible first | exact HB.out | apply below_alloc | apply pw_below_drewN | apply below_drew1 | refine below_set ?_ GE336.out) | exact HB.out)) hb); clear HO_8; clear BK336; clear HB; have HO_8 := n0_; have HO350 := n1_; have BK336 := n2_; have HB := n3_; clear n0_ n1_ n2_ n3_; (try clear hb); (try clear hb2); (try clear hk); (try clear hi); (try clear ho0); obtain ⟨Ao54, co54, eo54⟩ := Kd.V_slice HO350.out; subst eo54) | (go_at_call 11; (with_reducible refine (chain_Read.calls kj17 (fun k_ => k_ ≠ gb336) _ _ t348 a2 t351 t354 t355 t356 t357 _ ?side1 A41.out).mono ?_); (case side1 => exact HO350.out); rintro e w55 ⟨v352, rfl, ho0, hb⟩; have n0_ := Aside0.mk (Kd.V_below (by (with_reducible repeat (first | apply Kd.V_alloc | apply Kd.V_drewN | apply Kd.V_drew)); exact HO_8.out) hb); have n1_ := Aside0.mk (Kd.V_below (by (with_reducible repeat (first | apply Kd.V_alloc | apply Kd.V_drewN | apply Kd.V_drew)); exact HO350.out) hb); have n2_ := Aside0.mk (Kd.V_lower (Kd.V_mono (ok' := fun k_ => k_ ≠ gb336) ho0 (fun k_ hk_ => Or.elim hk_ (fun hs_ => hs_) (fun hn_ => (Kd.freshB (g := gb336) (o := .cells #[.int .i64 t332, .int .i64 t333, .string t334, .bool t335] 27 (0, 0)) (by (with_reducible repeat (first | refine blk_drewN ?_ _ | refine blk_drew ?_ | refine blk_alloc ?_ _)); exact BK336.out) k_ hn_)))) (below_size (by repeat (first | (with_reducible first | exact HB.out | apply below_alloc | apply pw_below_drewN | apply below_drew1 | refine below_set ?_ GE336.out) | exact HB.out)))); have n3_ := Aside0.mk (blk_below (g := gb336) (o := .cells #[.int .i64 t332, .int .i64 t333, .string t334, .bool t335] 27 (0, 0)) (by (with_reducible repeat (first | refine blk_drewN ?_ _ | refine blk_drew ?_ | refine blk_alloc ?_ _)); exact BK336.out) hb); have n4_ := Aside0.mk (below_step (by repeat (first | (with_reducible first | exact HB.out | apply below_alloc | apply pw_below_drewN | apply below_drew1 | refine below_set ?_ GE336.out) | exact HB.out)) hb); clear HO_8; clear HO350; clear BK336; clear HB; have HO_8 := n0_; have HO350 := n1_; have HO353 := n2_; have BK336 := n3_; have HB := n4_; clear n0_ n1_ n2_ n3_ n4_; (try clear hb); (try clear hb2); (try clear hk); (try clear hi); (try clear ho0)) | ((with_reducible refine gate_dst (N := 12) rfl ?_); refine box_event ?hg (N := 12) ?hd (cs := #[.int .i64 0, .int .i64 0, .string (⟨#[]⟩ : ByteArray), .bool false]) (t := 27) ?hr ?_; (case hd => rfl); (case hg => rfl); (case hr => first | (go_simp; done) | (go_simp; rfl)); intro gb358 hg w56 hbox hb; have n0_ := Aside0.mk (Kd.V_below (Kd.V_elderB (by (with_reducible repeat (first | apply Kd.V_alloc | apply Kd.V_drewN | apply Kd.V_drew)); exact HO_8.out) gb358 (Nat.le_of_eq hg.symm)) hb); have n1_ := Aside0.mk (Kd.V_below (Kd.V_elderB (by (with_reducible repeat (first | apply Kd.V_alloc | apply Kd.V_drewN | apply Kd.V_drew)); exact HO350.out) gb358 (Nat.le_of_eq hg.symm)) hb); have n2_ := Aside0.mk (Kd.V_below (Kd.V_elderB (by (with_reducible repeat (first | apply Kd.V_alloc | apply Kd.V_drewN | apply Kd.V_drew)); exact HO353.out) gb358 (Nat.le_of_eq hg.symm)) hb); have n3_ := Aside0.mk (blk_below (g := gb336) (o := .cells #[.int .i64 t332, .int .i64 t333, .string t334, .bool t335] 27 (0, 0)) (by (with_reducible repeat (first | refine blk_drewN ?_ _ | refine blk_drew ?_ | refine blk_alloc ?_ _)); exact BK336.out) hb); have n4_ := Aside0.mk (below_step (by repeat (first | (with_reducible first | exact HB.out | apply below_alloc | apply pw_below_drewN | apply below_drew1 | refine below_set ?_ GE336.out) | exact HB.out)) hb); have n5_ := Aside0.mk (hbox); have n6_ := Aside0.mk ((by rw [hg]; exact (below_size (by repeat (first | (with_reducible first | exact HB.out | apply below_alloc | apply pw_below_drewN | apply below_drew1 | refine below_set ?_ GE336.out) | exact HB.out))) : w.heap.size ≤ gb358)); have n7_ := Aside0.mk ((by rw [hg]; exact (below_size (by repeat (first | (with_reducible first | exact HB.out | apply below_alloc | apply pw_below_drewN | apply below_drew1 | refine below_set ?_ GE336.out) | exact HB.out))) : w.heap.size ≤ gb358)); have n8_ := Aside0.mk ((by rw [hg]; exact Nat.ne_of_lt (blk_lt (g := gb336) (o := .cells #[.int .i64 t332, .int .i64 t333, .string t334, .bool t335] 27 (0, 0)) (by (with_reducible repeat (first | refine blk_drewN ?_ _ | refine blk_drew ?_ | refine blk_alloc ?_ _)); exact BK336.out)) : gb336 ≠ gb358)); have n9_ := Aside0.mk ((by rw [hg]; exact Nat.ne_of_gt (blk_lt (g := gb336) (o := .cells #[.int .i64 t332, .int .i64 t333, .string t334, .bool t335] 27 (0, 0)) (by (with_reducible repeat (first | refine blk_drewN ?_ _ | refine blk_drew ?_ | refine blk_alloc ?_ _)); exact BK336.out)) : gb358 ≠ gb336)); clear HO_8; clear HO350; clear HO353; clear BK336; clear HB; have HO_8 := n0_; have HO350 := n1_; have HO353 := n2_; have BK336 := n3_; have HB := n4_; have BK358 := n5_; have GW358 := n6_; have GE358 := n7_; have NB336_358 := n8_; have NB358_336 := n9_; clear n0_ n1_ n2_ n3_ n4_ n5_ n6_ n7_ n8_ n9_; clear hb hbox hg; have hnb57 := NB358_336.out; have hnc57 := NB336_358.out; have hcz58_0 : w56.cell? ⟨gb358, 0, none⟩ = some (.int .i64 0) := (blk_cell BK358.out 0).trans rfl; have hcz58_1 : w56.cell? ⟨gb358, 1, none⟩ = some (.int .i64 0) := (blk_cell BK358.out 1).trans rfl; have hcz58_2 : w56.cell? ⟨gb358, 2, none⟩ = some (.string (⟨#[]⟩ : ByteArray)) := (blk_cell BK358.out 2).trans rfl; have hcz58_3 : w56.cell? ⟨gb358, 3, none⟩ = some (.bool false) := (blk_cell BK358.out 3).trans rfl; have hfz58_0 := blk_frozen BK358.out 0; have hfz58_1 := blk_frozen BK358.out 1; have hfz58_2 := blk_frozen BK358.out 2; have hfz58_3 := blk_frozen BK358.out 3; have hcz59_0 : w56.cell? ⟨gb336, 0, none⟩ = some (.int .i64 t332) := (blk_cell BK336.out 0).trans rfl; have hcz59_1 : w56.cell? ⟨gb336, 1, none⟩ = some (.int .i64 t333) := (blk_cell BK336.out 1).trans rfl; have hcz59_2 : w56.cell? ⟨gb336, 2, none⟩ = some (.string t334) := (blk_cell BK336.out 2).trans rfl; have hcz59_3 : w56.cell? ⟨gb336, 3, none⟩ = some (.bool t335) := (blk_cell BK336.out 3).trans rfl; have hfz59_0 := blk_frozen BK336.out 0; have hfz59_1 := blk_frozen BK336.out 1; have hfz59_2 := blk_frozen BK336.out 2; have hfz59_3 := blk_frozen BK336.out 3))
                            repeat (go_quiet (first | (go_at_call 26; (with_reducible refine (ogivelaw10_do.calls kj17 (fun k_ => k_ ≠ gb336) _ _ x8_1 ((rd_T51 l1 x10_1).f0) ((rd_T51 l1 x10_1).f1) ((rd_T51 l1 x10_1).f2) t348 _ ?side1 A40.out).mono ?_); (case side1 => exact HO_8.out); rintro e w53 ⟨v349, rfl, ho0, hb⟩; have n0_ := Aside0.mk (Kd.V_below (by (with_reducible repeat (first | apply Kd.V_alloc | apply Kd.V_drewN | apply Kd.V_drew)); exact HO_8.out) hb); have n1_ := Aside0.mk (Kd.V_lower (Kd.V_mono (ok' := fun k_ => k_ ≠ gb336) ho0 (fun k_ hk_ => Or.elim hk_ (fun hs_ => hs_) (fun hn_ => (Kd.freshB (g := gb336) (o := .cells #[.int .i64 t332, .int .i64 t333, .string t334, .bool t335] 27 (0, 0)) (by (with_reducible repeat (first | refine blk_drewN ?_ _ | refine blk_drew ?_ | refine blk_alloc ?_ _)); exact BK336.out) k_ hn_)))) (below_size (by repeat (first | (with_reducible first | exact HB.out | apply below_alloc | apply pw_below_drewN | apply below_drew1 | refine below_set ?_ GE336.out) | exact HB.out)))); have n2_ := Aside0.mk (blk_below (g := gb336) (o := .cells #[.int .i64 t332, .int .i64 t333, .string t334, .bool t335] 27 (0, 0)) (by (with_reducible repeat (first | refine blk_drewN ?_ _ | refine blk_drew ?_ | refine blk_alloc ?_ _)); exact BK336.out) hb); have n3_ := Aside0.mk (below_step (by repeat (first | (with_reducible first | exact HB.out | apply below_alloc | apply pw_below_drewN | apply below_drew1 | refine below_set ?_ GE336.out) | exact HB.out)) hb); clear HO_8; clear BK336; clear HB; have HO_8 := n0_; have HO350 := n1_; have BK336 := n2_; have HB := n3_; clear n0_ n1_ n2_ n3_; (try clear hb); (try clear hb2); (try clear hk); (try clear hi); (try clear ho0); obtain ⟨Ao54, co54, eo54⟩ := Kd.V_slice HO350.out; subst eo54) | (go_at_call 11; (with_reducible refine (chain_Read.calls kj17 (fun k_ => k_ ≠ gb336) _ _ t348 a2 t351 t354 t355 t356 t357 _ ?side1 A41.out).mono ?_); (case side1 => exact HO350.out); rintro e w55 ⟨v352, rfl, ho0, hb⟩; have n0_ := Aside0.mk (Kd.V_below (by (with_reducible repeat (first | apply Kd.V_alloc | apply Kd.V_drewN | apply Kd.V_drew)); exact HO_8.out) hb); have n1_ := Aside0.mk (Kd.V_below (by (with_reducible repeat (first | apply Kd.V_alloc | apply Kd.V_drewN | apply Kd.V_drew)); exact HO350.out) hb); have n2_ := Aside0.mk (Kd.V_lower (Kd.V_mono (ok' := fun k_ => k_ ≠ gb336) ho0 (fun k_ hk_ => Or.elim hk_ (fun hs_ => hs_) (fun hn_ => (Kd.freshB (g := gb336) (o := .cells #[.int .i64 t332, .int .i64 t333, .string t334, .bool t335] 27 (0, 0)) (by (with_reducible repeat (first | refine blk_drewN ?_ _ | refine blk_drew ?_ | refine blk_alloc ?_ _)); exact BK336.out) k_ hn_)))) (below_size (by repeat (first | (with_reducible first | exact HB.out | apply below_alloc | apply pw_below_drewN | apply below_drew1 | refine below_set ?_ GE336.out) | exact HB.out)))); have n3_ := Aside0.mk (blk_below (g := gb336) (o := .cells #[.int .i64 t332, .int .i64 t333, .string t334, .bool t335] 27 (0, 0)) (by (with_reducible repeat (first | refine blk_drewN ?_ _ | refine blk_drew ?_ | refine blk_alloc ?_ _)); exact BK336.out) hb); have n4_ := Aside0.mk (below_step (by repeat (first | (with_reducible first | exact HB.out | apply below_alloc | apply pw_below_drewN | apply below_drew1 | refine below_set ?_ GE336.out) | exact HB.out)) hb); clear HO_8; clear HO350; clear BK336; clear HB; have HO_8 := n0_; have HO350 := n1_; have HO353 := n2_; have BK336 := n3_; have HB := n4_; clear n0_ n1_ n2_ n3_ n4_; (try clear hb); (try clear hb2); (try clear hk); (try clear hi); (try clear ho0)) | ((with_reducible refine gate_dst (N := 12) rfl ?_); refine box_event ?hg (N := 12) ?hd (cs := #[.int .i64 0, .int .i64 0, .string (⟨#[]⟩ : ByteArray), .bool false]) (t := 27) ?hr ?_; (case hd => rfl); (case hg => rfl); (case hr => first | (go_simp; done) | (go_simp; rfl)); intro gb358 hg w56 hbox hb; have n0_ := Aside0.mk (Kd.V_below (Kd.V_elderB (by (with_reducible repeat (first | apply Kd.V_alloc | apply Kd.V_drewN | apply Kd.V_drew)); exact HO_8.out) gb358 (Nat.le_of_eq hg.symm)) hb); have n1_ := Aside0.mk (Kd.V_below (Kd.V_elderB (by (with_reducible repeat (first | apply Kd.V_alloc | apply Kd.V_drewN | apply Kd.V_drew)); exact HO350.out) gb358 (Nat.le_of_eq hg.symm)) hb); have n2_ := Aside0.mk (Kd.V_below (Kd.V_elderB (by (with_reducible repeat (first | apply Kd.V_alloc | apply Kd.V_drewN | apply Kd.V_drew)); exact HO353.out) gb358 (Nat.le_of_eq hg.symm)) hb); have n3_ := Aside0.mk (blk_below (g := gb336) (o := .cells #[.int .i64 t332, .int .i64 t333, .string t334, .bool t335] 27 (0, 0)) (by (with_reducible repeat (first | refine blk_drewN ?_ _ | refine blk_drew ?_ | refine blk_alloc ?_ _)); exact BK336.out) hb); have n4_ := Aside0.mk (below_step (by repeat (first | (with_reducible first | exact HB.out | apply below_alloc | apply pw_below_drewN | apply below_drew1 | refine below_set ?_ GE336.out) | exact HB.out)) hb); have n5_ := Aside0.mk (hbox); have n6_ := Aside0.mk ((by rw [hg]; exact (below_size (by repeat (first | (with_reducible first | exact HB.out | apply below_alloc | apply pw_below_drewN | apply below_drew1 | refine below_set ?_ GE336.out) | exact HB.out))) : w.heap.size ≤ gb358)); have n7_ := Aside0.mk ((by rw [hg]; exact (below_size (by repeat (first | (with_reducible first | exact HB.out | apply below_alloc | apply pw_below_drewN | apply below_drew1 | refine below_set ?_ GE336.out) | exact HB.out))) : w.heap.size ≤ gb358)); have n8_ := Aside0.mk ((by rw [hg]; exact Nat.ne_of_lt (blk_lt (g := gb336) (o := .cells #[.int .i64 t332, .int .i64 t333, .string t334, .bool t335] 27 (0, 0)) (by (with_reducible repeat (first | refine blk_drewN ?_ _ | refine blk_drew ?_ | refine blk_alloc ?_ _)); exact BK336.out)) : gb336 ≠ gb358)); have n9_ := Aside0.mk ((by rw [hg]; exact Nat.ne_of_gt (blk_lt (g := gb336) (o := .cells #[.int .i64 t332, .int .i64 t333, .string t334, .bool t335] 27 (0, 0)) (by (with_reducible repeat (first | refine blk_drewN ?_ _ | refine blk_drew ?_ | refine blk_alloc ?_ _)); exact BK336.out)) : gb358 ≠ gb336)); clear HO_8; clear HO350; clear HO353; clear BK336; clear HB; have HO_8 := n0_; have HO350 := n1_; have HO353 := n2_; have BK336 := n3_; have HB := n4_; have BK358 := n5_; have GW358 := n6_; have GE358 := n7_; have NB336_358 := n8_; have NB358_336 := n9_; clear n0_ n1_ n2_ n3_ n4_ n5_ n6_ n7_ n8_ n9_; clear hb hbox hg; have hnb57 := NB358_336.out; have hnc57 := NB336_358.out; have hcz58_0 : w56.cell? ⟨gb358, 0, none⟩ = some (.int .i64 0) := (blk_cell BK358.out 0).trans rfl; have hcz58_1 : w56.cell? ⟨gb358, 1, none⟩ = some (.int .i64 0) := (blk_cell BK358.out 1).trans rfl; have hcz58_2 : w56.cell? ⟨gb358, 2, none⟩ = some (.string (⟨#[]⟩ : ByteArray)) := (blk_cell BK358.out 2).trans rfl; have hcz58_3 : w56.cell? ⟨gb358, 3, none⟩ = some (.bool false) := (blk_cell BK358.out 3).trans rfl; have hfz58_0 := blk_frozen BK358.out 0; have hfz58_1 := blk_frozen BK358.out 1; have hfz58_2 := blk_frozen BK358.out 2; have hfz58_3 := blk_frozen BK358.out 3; have hcz59_0 : w56.cell? ⟨gb336, 0, none⟩ = some (.int .i64 t332) := (blk_cell BK336.out 0).trans rfl; have hcz59_1 : w56.cell? ⟨gb336, 1, none⟩ = some (.int .i64 t333) := (blk_cell BK336.out 1).trans rfl; have hcz59_2 : w56.cell? ⟨gb336, 2, none⟩ = some (.string t334) := (blk_cell BK336.out 2).trans rfl; have hcz59_3 : w56.cell? ⟨gb336, 3, none⟩ = some (.bool t335) := (blk_cell BK336.out 3).trans rfl; have hfz59_0 := blk_frozen BK336.out 0; have hfz59_1 := blk_frozen BK336.out 1; have hfz59_2 := blk_frozen BK336.out 2; have hfz59_3 := blk_frozen BK336.out 3)); try go_wp2_with (first | (go_at_call 26; (with_reducible refine (ogivelaw10_do.calls kj17 (fun k_ => k_ ≠ gb336) _ _ x8_1 ((rd_T51 l1 x10_1).f0) ((rd_T51 l1 x10_1).f1) ((rd_T51 l1 x10_1).f2) t348 _ ?side1 A40.out).mono ?_); (case side1 => exact HO_8.out); rintro e w53 ⟨v349, rfl, ho0, hb⟩; have n0_ := Aside0.mk (Kd.V_below (by (with_reducible repeat (first | apply Kd.V_alloc | apply Kd.V_drewN | apply Kd.V_drew)); exact HO_8.out) hb); have n1_ := Aside0.mk (Kd.V_lower (Kd.V_mono (ok' := fun k_ => k_ ≠ gb336) ho0 (fun k_ hk_ => Or.elim hk_ (fun hs_ => hs_) (fun hn_ => (Kd.freshB (g := gb336) (o := .cells #[.int .i64 t332, .int .i64 t333, .string t334, .bool t335] 27 (0, 0)) (by (with_reducible repeat (first | refine blk_drewN ?_ _ | refine blk_drew ?_ | refine blk_alloc ?_ _)); exact BK336.out) k_ hn_)))) (below_size (by repeat (first | (with_reducible first | exact HB.out | apply below_alloc | apply pw_below_drewN | apply below_drew1 | refine below_set ?_ GE336.out) | exact HB.out)))); have n2_ := Aside0.mk (blk_below (g := gb336) (o := .cells #[.int .i64 t332, .int .i64 t333, .string t334, .bool t335] 27 (0, 0)) (by (with_reducible repeat (first | refine blk_drewN ?_ _ | refine blk_drew ?_ | refine blk_alloc ?_ _)); exact BK336.out) hb); have n3_ := Aside0.mk (below_step (by repeat (first | (with_reducible first | exact HB.out | apply below_alloc | apply pw_below_drewN | apply below_drew1 | refine below_set ?_ GE336.out) | exact HB.out)) hb); clear HO_8; clear BK336; clear HB; have HO_8 := n0_; have HO350 := n1_; have BK336 := n2_; have HB := n3_; clear n0_ n1_ n2_ n3_; (try clear hb); (try clear hb2); (try clear hk); (try clear hi); (try clear ho0); obtain ⟨Ao54, co54, eo54⟩ := Kd.V_slice HO350.out; subst eo54) | (go_at_call 11; (with_reducible refine (chain_Read.calls kj17 (fun k_ => k_ ≠ gb336) _ _ t348 a2 t351 t354 t355 t356 t357 _ ?side1 A41.out).mono ?_); (case side1 => exact HO350.out); rintro e w55 ⟨v352, rfl, ho0, hb⟩; have n0_ := Aside0.mk (Kd.V_below (by (with_reducible repeat (first | apply Kd.V_alloc | apply Kd.V_drewN | apply Kd.V_drew)); exact HO_8.out) hb); have n1_ := Aside0.mk (Kd.V_below (by (with_reducible repeat (first | apply Kd.V_alloc | apply Kd.V_drewN | apply Kd.V_drew)); exact HO350.out) hb); have n2_ := Aside0.mk (Kd.V_lower (Kd.V_mono (ok' := fun k_ => k_ ≠ gb336) ho0 (fun k_ hk_ => Or.elim hk_ (fun hs_ => hs_) (fun hn_ => (Kd.freshB (g := gb336) (o := .cells #[.int .i64 t332, .int .i64 t333, .string t334, .bool t335] 27 (0, 0)) (by (with_reducible repeat (first | refine blk_drewN ?_ _ | refine blk_drew ?_ | refine blk_alloc ?_ _)); exact BK336.out) k_ hn_)))) (below_size (by repeat (first | (with_reducible first | exact HB.out | apply below_alloc | apply pw_below_drewN | apply below_drew1 | refine below_set ?_ GE336.out) | exact HB.out)))); have n3_ := Aside0.mk (blk_below (g := gb336) (o := .cells #[.int .i64 t332, .int .i64 t333, .string t334, .bool t335] 27 (0, 0)) (by (with_reducible repeat (first | refine blk_drewN ?_ _ | refine blk_drew ?_ | refine blk_alloc ?_ _)); exact BK336.out) hb); have n4_ := Aside0.mk (below_step (by repeat (first | (with_reducible first | exact HB.out | apply below_alloc | apply pw_below_drewN | apply below_drew1 | refine below_set ?_ GE336.out) | exact HB.out)) hb); clear HO_8; clear HO350; clear BK336; clear HB; have HO_8 := n0_; have HO350 := n1_; have HO353 := n2_; have BK336 := n3_; have HB := n4_; clear n0_ n1_ n2_ n3_ n4_; (try clear hb); (try clear hb2); (try clear hk); (try clear hi); (try clear ho0)) | ((with_reducible refine gate_dst (N := 12) rfl ?_); refine box_event ?hg (N := 12) ?hd (cs := #[.int .i64 0, .int .i64 0, .string (⟨#[]⟩ : ByteArray), .bool false]) (t := 27) ?hr ?_; (case hd => rfl); (case hg => rfl); (case hr => first | (go_simp; done) | (go_simp; rfl)); intro gb358 hg w56 hbox hb; have n0_ := Aside0.mk (Kd.V_below (Kd.V_elderB (by (with_reducible repeat (first | apply Kd.V_alloc | apply Kd.V_drewN | apply Kd.V_drew)); exact HO_8.out) gb358 (Nat.le_of_eq hg.symm)) hb); have n1_ := Aside0.mk (Kd.V_below (Kd.V_elderB (by (with_reducible repeat (first | apply Kd.V_alloc | apply Kd.V_drewN | apply Kd.V_drew)); exact HO350.out) gb358 (Nat.le_of_eq hg.symm)) hb); have n2_ := Aside0.mk (Kd.V_below (Kd.V_elderB (by (with_reducible repeat (first | apply Kd.V_alloc | apply Kd.V_drewN | apply Kd.V_drew)); exact HO353.out) gb358 (Nat.le_of_eq hg.symm)) hb); have n3_ := Aside0.mk (blk_below (g := gb336) (o := .cells #[.int .i64 t332, .int .i64 t333, .string t334, .bool t335] 27 (0, 0)) (by (with_reducible repeat (first | refine blk_drewN ?_ _ | refine blk_drew ?_ | refine blk_alloc ?_ _)); exact BK336.out) hb); have n4_ := Aside0.mk (below_step (by repeat (first | (with_reducible first | exact HB.out | apply below_alloc | apply pw_below_drewN | apply below_drew1 | refine below_set ?_ GE336.out) | exact HB.out)) hb); have n5_ := Aside0.mk (hbox); have n6_ := Aside0.mk ((by rw [hg]; exact (below_size (by repeat (first | (with_reducible first | exact HB.out | apply below_alloc | apply pw_below_drewN | apply below_drew1 | refine below_set ?_ GE336.out) | exact HB.out))) : w.heap.size ≤ gb358)); have n7_ := Aside0.mk ((by rw [hg]; exact (below_size (by repeat (first | (with_reducible first | exact HB.out | apply below_alloc | apply pw_below_drewN | apply below_drew1 | refine below_set ?_ GE336.out) | exact HB.out))) : w.heap.size ≤ gb358)); have n8_ := Aside0.mk ((by rw [hg]; exact Nat.ne_of_lt (blk_lt (g := gb336) (o := .cells #[.int .i64 t332, .int .i64 t333, .string t334, .bool t335] 27 (0, 0)) (by (with_reducible repeat (first | refine blk_drewN ?_ _ | refine blk_drew ?_ | refine blk_alloc ?_ _)); exact BK336.out)) : gb336 ≠ gb358)); have n9_ := Aside0.mk ((by rw [hg]; exact Nat.ne_of_gt (blk_lt (g := gb336) (o := .cells #[.int .i64 t332, .int .i64 t333, .string t334, .bool t335] 27 (0, 0)) (by (with_reducible repeat (first | refine blk_drewN ?_ _ | refine blk_drew ?_ | refine blk_alloc ?_ _)); exact BK336.out)) : gb358 ≠ gb336)); clear HO_8; clear HO350; clear HO353; clear BK336; clear HB; have HO_8 := n0_; have HO350 := n1_; have HO353 := n2_; have BK336 := n3_; have HB := n4_; have BK358 := n5_; have GW358 := n6_; have GE358 := n7_; have NB336_358 := n8_; have NB358_336 := n9_; clear n0_ n1_ n2_ n3_ n4_ n5_ n6_ n7_ n8_ n9_; clear hb hbox hg; have hnb57 := NB358_336.out; have hnc57 := NB336_358.out; have hcz58_0 : w56.cell? ⟨gb358, 0, none⟩ = some (.int .i64 0) := (blk_cell BK358.out 0).trans rfl; have hcz58_1 : w56.cell? ⟨gb358, 1, none⟩ = some (.int .i64 0) := (blk_cell BK358.out 1).trans rfl; have hcz58_2 : w56.cell? ⟨gb358, 2, none⟩ = some (.string (⟨#[]⟩ : ByteArray)) := (blk_cell BK358.out 2).trans rfl; have hcz58_3 : w56.cell? ⟨gb358, 3, none⟩ = some (.bool false) := (blk_cell BK358.out 3).trans rfl; have hfz58_0 := blk_frozen BK358.out 0; have hfz58_1 := blk_frozen BK358.out 1; have hfz58_2 := blk_frozen BK358.out 2; have hfz58_3 := blk_frozen BK358.out 3; have hcz59_0 : w56.cell? ⟨gb336, 0, none⟩ = some (.int .i64 t332) := (blk_cell BK336.out 0).trans rfl; have hcz59_1 : w56.cell? ⟨gb336, 1, none⟩ = some (.int .i64 t333) := (blk_cell BK336.out 1).trans rfl; have hcz59_2 : w56.cell? ⟨gb336, 2, none⟩ = some (.string t334) := (blk_cell BK336.out 2).trans rfl; have hcz59_3 : w56.cell? ⟨gb336, 3, none⟩ = some (.bool t335) := (blk_cell BK336.out 3).trans rfl; have hfz59_0 := blk_frozen BK336.out 0; have hfz59_1 := blk_frozen BK336.out 1; have hfz59_2 := blk_frozen BK336.out 2; have hfz59_3 := blk_frozen BK336.out 3)))
                            go_ret
                            exact ⟨by first | rfl | (simp [errW_none, errW_some] <;> rfl) | (simp [*, errW_none, errW_some] <;> rfl), by repeat (first | (with_reducible first | exact HB.out | apply below_alloc | apply pw_below_drewN | apply below_drew1 | refine below_set ?_ GE336.out | refine below_set ?_ GE358.out) | exact HB.out)⟩
                        · rw [if_neg c42] at H
                          have c42b0 : (t354 == t332) = false := beq_eq_false_iff_ne.mpr c42
                          have c42b1 : (t354 != t332) = true := bne_iff_ne.mpr c42
                          obtain rfl := Option.some.inj H
                          have p347 : 0 ≤ (x10_1 : Int) := of_decide_eq_true (by first | (with_reducible assumption) | assumption)
                          have q347 : x10_1 < (l1.length : Int) := of_decide_eq_true (by first | (with_reducible assumption) | assumption)
                          obtain ⟨ad347, e347, hx347_0, hx347_1, hx347_2⟩ := at_T51 HR1.out x10_1 p347 q347
                          cases e347
                          replace hx347_0 := (HB.out.cell (World.block_lt_of_cell? w _ hx347_0)).trans hx347_0
                          replace hx347_1 := (HB.out.cell (World.block_lt_of_cell? w _ hx347_1)).trans hx347_1
                          replace hx347_2 := (HB.out.cell (World.block_lt_of_cell? w _ hx347_2)).trans hx347_2
                          replace p347 := eq_true p347
                          replace q347 := eq_true q347
                          obtain ⟨Ao60, co60, eo60⟩ := Kd.V_slice HO_8.out
                          subst eo60
                          go_wp2_with (first | (go_at_call 26; (with_reducible refine (ogivelaw10_do.calls kj17 (fun k_ => k_ ≠ gb336) _ _ x8_1 ((rd_T51 l1 x10_1).f0) ((rd_T51 l1 x10_1).f1) ((rd_T51 l1 x10_1).f2) t348 _ ?side1 A40.out).mono ?_); (case side1 => exact HO_8.out); rintro e w61 ⟨v349, rfl, ho0, hb⟩; have n0_ := Aside0.mk (Kd.V_below (by (with_reducible repeat (first | apply Kd.V_alloc | apply Kd.V_drewN | apply Kd.V_drew)); exact HO_8.out) hb); have n1_ := Aside0.mk (Kd.V_lower (Kd.V_mono (ok' := fun k_ => k_ ≠ gb336) ho0 (fun k_ hk_ => Or.elim hk_ (fun hs_ => hs_) (fun hn_ => (Kd.freshB (g := gb336) (o := .cells #[.int .i64 t332, .int .i64 t333, .string t334, .bool t335] 27 (0, 0)) (by (with_reducible repeat (first | refine blk_drewN ?_ _ | refine blk_drew ?_ | refine blk_alloc ?_ _)); exact BK336.out) k_ hn_)))) (below_size (by repeat (first | (with_reducible first | exact HB.out | apply below_alloc | apply pw_below_drewN | apply below_drew1 | refine below_set ?_ GE336.out) | exact HB.out)))); have n2_ := Aside0.mk (blk_below (g := gb336) (o := .cells #[.int .i64 t332, .int .i64 t333, .string t334, .bool t335] 27 (0, 0)) (by (with_reducible repeat (first | refine blk_drewN ?_ _ | refine blk_drew ?_ | refine blk_alloc ?_ _)); exact BK336.out) hb); have n3_ := Aside0.mk (below_step (by repeat (first | (with_reducible first | exact HB.out | apply below_alloc | apply pw_below_drewN | apply below_drew1 | refine below_set ?_ GE336.out) | exact HB.out)) hb); clear HO_8; clear BK336; clear HB; have HO_8 := n0_; have HO350 := n1_; have BK336 := n2_; have HB := n3_; clear n0_ n1_ n2_ n3_; (try clear hb); (try clear hb2); (try clear hk); (try clear hi); (try clear ho0); obtain ⟨Ao62, co62, eo62⟩ := Kd.V_slice HO350.out; subst eo62) | (go_at_call 11; (with_reducible refine (chain_Read.calls kj17 (fun k_ => k_ ≠ gb336) _ _ t348 a2 t351 t354 t355 t356 t357 _ ?side1 A41.out).mono ?_); (case side1 => exact HO350.out); rintro e w63 ⟨v352, rfl, ho0, hb⟩; have n0_ := Aside0.mk (Kd.V_below (by (with_reducible repeat (first | apply Kd.V_alloc | apply Kd.V_drewN | apply Kd.V_drew)); exact HO_8.out) hb); have n1_ := Aside0.mk (Kd.V_below (by (with_reducible repeat (first | apply Kd.V_alloc | apply Kd.V_drewN | apply Kd.V_drew)); exact HO350.out) hb); have n2_ := Aside0.mk (Kd.V_lower (Kd.V_mono (ok' := fun k_ => k_ ≠ gb336) ho0 (fun k_ hk_ => Or.elim hk_ (fun hs_ => hs_) (fun hn_ => (Kd.freshB (g := gb336) (o := .cells #[.int .i64 t332, .int .i64 t333, .string t334, .bool t335] 27 (0, 0)) (by (with_reducible repeat (first | refine blk_drewN ?_ _ | refine blk_drew ?_ | refine blk_alloc ?_ _)); exact BK336.out) k_ hn_)))) (below_size (by repeat (first | (with_reducible first | exact HB.out | apply below_alloc | apply pw_below_drewN | apply below_drew1 | refine below_set ?_ GE336.out) | exact HB.out)))); have n3_ := Aside0.mk (blk_below (g := gb336) (o := .cells #[.int .i64 t332, .int .i64 t333, .string t334, .bool t335] 27 (0, 0)) (by (with_reducible repeat (first | refine blk_drewN ?_ _ | refine blk_drew ?_ | refine blk_alloc ?_ _)); exact BK336.out) hb); have n4_ := Aside0.mk (below_step (by repeat (first | (with_reducible first | exact HB.out | apply below_alloc | apply pw_below_drewN | apply below_drew1 | refine below_set ?_ GE336.out) | exact HB.out)) hb); clear HO_8; clear HO350; clear BK336; clear HB; have HO_8 := n0_; have HO350 := n1_; have HO353 := n2_; have BK336 := n3_; have HB := n4_; clear n0_ n1_ n2_ n3_ n4_; (try clear hb); (try clear hb2); (try clear hk); (try clear hi); (try clear ho0)) | ((with_reducible refine gate_dst (N := 12) rfl ?_); refine box_event ?hg (N := 12) ?hd (cs := #[.int .i64 0, .int .i64 0, .string (⟨#[]⟩ : ByteArray), .bool false]) (t := 27) ?hr ?_; (case hd => rfl); (case hg => rfl); (case hr => first | (go_simp; done) | (go_simp; rfl)); intro gb358 hg w64 hbox hb; have n0_ := Aside0.mk (Kd.V_below (Kd.V_elderB (by (with_reducible repeat (first | apply Kd.V_alloc | apply Kd.V_drewN | apply Kd.V_drew)); exact HO_8.out) gb358 (Nat.le_of_eq hg.symm)) hb); have n1_ := Aside0.mk (Kd.V_below (Kd.V_elderB (by (with_reducible repeat (first | apply Kd.V_alloc | apply Kd.V_drewN | apply Kd.V_drew)); exact HO350.out) gb358 (Nat.le_of_eq hg.symm)) hb); have n2_ := Aside0.mk (Kd.V_below (Kd.V_elderB (by (with_reducible repeat (first | apply Kd.V_alloc | apply Kd.V_drewN | apply Kd.V_drew)); exact HO353.out) gb358 (Nat.le_of_eq hg.symm)) hb); have n3_ := Aside0.mk (blk_below (g := gb336) (o := .cells #[.int .i64 t332, .int .i64 t333, .string t334, .bool t335] 27 (0, 0)) (by (with_reducible repeat (first | refine blk_drewN ?_ _ | refine blk_drew ?_ | refine blk_alloc ?_ _)); exact BK336.out) hb); have n4_ := Aside0.mk (below_step (by repeat (first | (with_reducible first | exact HB.out | apply below_alloc | apply pw_below_drewN | apply below_drew1 | refine below_set ?_ GE336.out) | exact HB.out)) hb); have n5_ := Aside0.mk (hbox); have n6_ := Aside0.mk ((by rw [hg]; exact (below_size (by repeat (first | (with_reducible first | exact HB.out | apply below_alloc | apply pw_below_drewN | apply below_drew1 | refine below_set ?_ GE336.out) | exact HB.out))) : w.heap.size ≤ gb358)); have n7_ := Aside0.mk ((by rw [hg]; exact (below_size (by repeat (first | (with_reducible first | exact HB.out | apply below_alloc | apply pw_below_drewN | apply below_drew1 | refine below_set ?_ GE336.out) | exact HB.out))) : w.heap.size ≤ gb358)); have n8_ := Aside0.mk ((by rw [hg]; exact Nat.ne_of_lt (blk_lt (g := gb336) (o := .cells #[.int .i64 t332, .int .i64 t333, .string t334, .bool t335] 27 (0, 0)) (by (with_reducible repeat (first | refine blk_drewN ?_ _ | refine blk_drew ?_ | refine blk_alloc ?_ _)); exact BK336.out)) : gb336 ≠ gb358)); have n9_ := Aside0.mk ((by rw [hg]; exact Nat.ne_of_gt (blk_lt (g := gb336) (o := .cells #[.int .i64 t332, .int .i64 t333, .string t334, .bool t335] 27 (0, 0)) (by (with_reducible repeat (first | refine blk_drewN ?_ _ | refine blk_drew ?_ | refine blk_alloc ?_ _)); exact BK336.out)) : gb358 ≠ gb336)); clear HO_8; clear HO350; clear HO353; clear BK336; clear HB; have HO_8 := n0_; have HO350 := n1_; have HO353 := n2_; have BK336 := n3_; have HB := n4_; have BK358 := n5_; have GW358 := n6_; have GE358 := n7_; have NB336_358 := n8_; have NB358_336 := n9_; clear n0_ n1_ n2_ n3_ n4_ n5_ n6_ n7_ n8_ n9_; clear hb hbox hg; have hnb65 := NB358_336.out; have hnc65 := NB336_358.out; have hcz66_0 : w64.cell? ⟨gb358, 0, none⟩ = some (.int .i64 0) := (blk_cell BK358.out 0).trans rfl; have hcz66_1 : w64.cell? ⟨gb358, 1, none⟩ = some (.int .i64 0) := (blk_cell BK358.out 1).trans rfl; have hcz66_2 : w64.cell? ⟨gb358, 2, none⟩ = some (.string (⟨#[]⟩ : ByteArray)) := (blk_cell BK358.out 2).trans rfl; have hcz66_3 : w64.cell? ⟨gb358, 3, none⟩ = some (.bool false) := (blk_cell BK358.out 3).trans rfl; have hfz66_0 := blk_frozen BK358.out 0; have hfz66_1 := blk_frozen BK358.out 1; have hfz66_2 := blk_frozen BK358.out 2; have hfz66_3 := blk_frozen BK358.out 3; have hcz67_0 : w64.cell? ⟨gb336, 0, none⟩ = some (.int .i64 t332) := (blk_cell BK336.out 0).trans rfl; have hcz67_1 : w64.cell? ⟨gb336, 1, none⟩ = some (.int .i64 t333) := (blk_cell BK336.out 1).trans rfl; have hcz67_2 : w64.cell? ⟨gb336, 2, none⟩ = some (.string t334) := (blk_cell BK336.out 2).trans rfl; have hcz67_3 : w64.cell? ⟨gb336, 3, none⟩ = some (.bool t335) := (blk_cell BK336.out 3).trans rfl; have hfz67_0 := blk_frozen BK336.out 0; have hfz67_1 := blk_frozen BK336.out 1; have hfz67_2 := blk_frozen BK336.out 2; have hfz67_3 := blk_frozen BK336.out 3))
                          repeat (go_quiet (first | (go_at_call 26; (with_reducible refine (ogivelaw10_do.calls kj17 (fun k_ => k_ ≠ gb336) _ _ x8_1 ((rd_T51 l1 x10_1).f0) ((rd_T51 l1 x10_1).f1) ((rd_T51 l1 x10_1).f2) t348 _ ?side1 A40.out).mono ?_); (case side1 => exact HO_8.out); rintro e w61 ⟨v349, rfl, ho0, hb⟩; have n0_ := Aside0.mk (Kd.V_below (by (with_reducible repeat (first | apply Kd.V_alloc | apply Kd.V_drewN | apply Kd.V_drew)); exact HO_8.out) hb); have n1_ := Aside0.mk (Kd.V_lower (Kd.V_mono (ok' := fun k_ => k_ ≠ gb336) ho0 (fun k_ hk_ => Or.elim hk_ (fun hs_ => hs_) (fun hn_ => (Kd.freshB (g := gb336) (o := .cells #[.int .i64 t332, .int .i64 t333, .string t334, .bool t335] 27 (0, 0)) (by (with_reducible repeat (first | refine blk_drewN ?_ _ | refine blk_drew ?_ | refine blk_alloc ?_ _)); exact BK336.out) k_ hn_)))) (below_size (by repeat (first | (with_reducible first | exact HB.out | apply below_alloc | apply pw_below_drewN | apply below_drew1 | refine below_set ?_ GE336.out) | exact HB.out)))); have n2_ := Aside0.mk (blk_below (g := gb336) (o := .cells #[.int .i64 t332, .int .i64 t333, .string t334, .bool t335] 27 (0, 0)) (by (with_reducible repeat (first | refine blk_drewN ?_ _ | refine blk_drew ?_ | refine blk_alloc ?_ _)); exact BK336.out) hb); have n3_ := Aside0.mk (below_step (by repeat (first | (with_reducible first | exact HB.out | apply below_alloc | apply pw_below_drewN | apply below_drew1 | refine below_set ?_ GE336.out) | exact HB.out)) hb); clear HO_8; clear BK336; clear HB; have HO_8 := n0_; have HO350 := n1_; have BK336 := n2_; have HB := n3_; clear n0_ n1_ n2_ n3_; (try clear hb); (try clear hb2); (try clear hk); (try clear hi); (try clear ho0); obtain ⟨Ao62, co62, eo62⟩ := Kd.V_slice HO350.out; subst eo62) | (go_at_call 11; (with_reducible refine (chain_Read.calls kj17 (fun k_ => k_ ≠ gb336) _ _ t348 a2 t351 t354 t355 t356 t357 _ ?side1 A41.out).mono ?_); (case side1 => exact HO350.out); rintro e w63 ⟨v352, rfl, ho0, hb⟩; have n0_ := Aside0.mk (Kd.V_below (by (with_reducible repeat (first | apply Kd.V_alloc | apply Kd.V_drewN | apply Kd.V_drew)); exact HO_8.out) hb); have n1_ := Aside0.mk (Kd.V_below (by (with_reducible repeat (first | apply Kd.V_alloc | apply Kd.V_drewN | apply Kd.V_drew)); exact HO350.out) hb); have n2_ := Aside0.mk (Kd.V_lower (Kd.V_mono (ok' := fun k_ => k_ ≠ gb336) ho0 (fun k_ hk_ => Or.elim hk_ (fun hs_ => hs_) (fun hn_ => (Kd.freshB (g := gb336) (o := .cells #[.int .i64 t332, .int .i64 t333, .string t334, .bool t335] 27 (0, 0)) (by (with_reducible repeat (first | refine blk_drewN ?_ _ | refine blk_drew ?_ | refine blk_alloc ?_ _)); exact BK336.out) k_ hn_)))) (below_size (by repeat (first | (with_reducible first | exact HB.out | apply below_alloc | apply pw_below_drewN | apply below_drew1 | refine below_set ?_ GE336.out) | exact HB.out)))); have n3_ := Aside0.mk (blk_below (g := gb336) (o := .cells #[.int .i64 t332, .int .i64 t333, .string t334, .bool t335] 27 (0, 0)) (by (with_reducible repeat (first | refine blk_drewN ?_ _ | refine blk_drew ?_ | refine blk_alloc ?_ _)); exact BK336.out) hb); have n4_ := Aside0.mk (below_step (by repeat (first | (with_reducible first | exact HB.out | apply below_alloc | apply pw_below_drewN | apply below_drew1 | refine below_set ?_ GE336.out) | exact HB.out)) hb); clear HO_8; clear HO350; clear BK336; clear HB; have HO_8 := n0_; have HO350 := n1_; have HO353 := n2_; have BK336 := n3_; have HB := n4_; clear n0_ n1_ n2_ n3_ n4_; (try clear hb); (try clear hb2); (try clear hk); (try clear hi); (try clear ho0)) | ((with_reducible refine gate_dst (N := 12) rfl ?_); refine box_event ?hg (N := 12) ?hd (cs := #[.int .i64 0, .int .i64 0, .string (⟨#[]⟩ : ByteArray), .bool false]) (t := 27) ?hr ?_; (case hd => rfl); (case hg => rfl); (case hr => first | (go_simp; done) | (go_simp; rfl)); intro gb358 hg w64 hbox hb; have n0_ := Aside0.mk (Kd.V_below (Kd.V_elderB (by (with_reducible repeat (first | apply Kd.V_alloc | apply Kd.V_drewN | apply Kd.V_drew)); exact HO_8.out) gb358 (Nat.le_of_eq hg.symm)) hb); have n1_ := Aside0.mk (Kd.V_below (Kd.V_elderB (by (with_reducible repeat (first | apply Kd.V_alloc | apply Kd.V_drewN | apply Kd.V_drew)); exact HO350.out) gb358 (Nat.le_of_eq hg.symm)) hb); have n2_ := Aside0.mk (Kd.V_below (Kd.V_elderB (by (with_reducible repeat (first | apply Kd.V_alloc | apply Kd.V_drewN | apply Kd.V_drew)); exact HO353.out) gb358 (Nat.le_of_eq hg.symm)) hb); have n3_ := Aside0.mk (blk_below (g := gb336) (o := .cells #[.int .i64 t332, .int .i64 t333, .string t334, .bool t335] 27 (0, 0)) (by (with_reducible repeat (first | refine blk_drewN ?_ _ | refine blk_drew ?_ | refine blk_alloc ?_ _)); exact BK336.out) hb); have n4_ := Aside0.mk (below_step (by repeat (first | (with_reducible first | exact HB.out | apply below_alloc | apply pw_below_drewN | apply below_drew1 | refine below_set ?_ GE336.out) | exact HB.out)) hb); have n5_ := Aside0.mk (hbox); have n6_ := Aside0.mk ((by rw [hg]; exact (below_size (by repeat (first | (with_reducible first | exact HB.out | apply below_alloc | apply pw_below_drewN | apply below_drew1 | refine below_set ?_ GE336.out) | exact HB.out))) : w.heap.size ≤ gb358)); have n7_ := Aside0.mk ((by rw [hg]; exact (below_size (by repeat (first | (with_reducible first | exact HB.out | apply below_alloc | apply pw_below_drewN | apply below_drew1 | refine below_set ?_ GE336.out) | exact HB.out))) : w.heap.size ≤ gb358)); have n8_ := Aside0.mk ((by rw [hg]; exact Nat.ne_of_lt (blk_lt (g := gb336) (o := .cells #[.int .i64 t332, .int .i64 t333, .string t334, .bool t335] 27 (0, 0)) (by (with_reducible repeat (first | refine blk_drewN ?_ _ | refine blk_drew ?_ | refine blk_alloc ?_ _)); exact BK336.out)) : gb336 ≠ gb358)); have n9_ := Aside0.mk ((by rw [hg]; exact Nat.ne_of_gt (blk_lt (g := gb336) (o := .cells #[.int .i64 t332, .int .i64 t333, .string t334, .bool t335] 27 (0, 0)) (by (with_reducible repeat (first | refine blk_drewN ?_ _ | refine blk_drew ?_ | refine blk_alloc ?_ _)); exact BK336.out)) : gb358 ≠ gb336)); clear HO_8; clear HO350; clear HO353; clear BK336; clear HB; have HO_8 := n0_; have HO350 := n1_; have HO353 := n2_; have BK336 := n3_; have HB := n4_; have BK358 := n5_; have GW358 := n6_; have GE358 := n7_; have NB336_358 := n8_; have NB358_336 := n9_; clear n0_ n1_ n2_ n3_ n4_ n5_ n6_ n7_ n8_ n9_; clear hb hbox hg; have hnb65 := NB358_336.out; have hnc65 := NB336_358.out; have hcz66_0 : w64.cell? ⟨gb358, 0, none⟩ = some (.int .i64 0) := (blk_cell BK358.out 0).trans rfl; have hcz66_1 : w64.cell? ⟨gb358, 1, none⟩ = some (.int .i64 0) := (blk_cell BK358.out 1).trans rfl; have hcz66_2 : w64.cell? ⟨gb358, 2, none⟩ = some (.string (⟨#[]⟩ : ByteArray)) := (blk_cell BK358.out 2).trans rfl; have hcz66_3 : w64.cell? ⟨gb358, 3, none⟩ = some (.bool false) := (blk_cell BK358.out 3).trans rfl; have hfz66_0 := blk_frozen BK358.out 0; have hfz66_1 := blk_frozen BK358.out 1; have hfz66_2 := blk_frozen BK358.out 2; have hfz66_3 := blk_frozen BK358.out 3; have hcz67_0 : w64.cell? ⟨gb336, 0, none⟩ = some (.int .i64 t332) := (blk_cell BK336.out 0).trans rfl; have hcz67_1 : w64.cell? ⟨gb336, 1, none⟩ = some (.int .i64 t333) := (blk_cell BK336.out 1).trans rfl; have hcz67_2 : w64.cell? ⟨gb336, 2, none⟩ = some (.string t334) := (blk_cell BK336.out 2).trans rfl; have hcz67_3 : w64.cell? ⟨gb336, 3, none⟩ = some (.bool t335) := (blk_cell BK336.out 3).trans rfl; have hfz67_0 := blk_frozen BK336.out 0; have hfz67_1 := blk_frozen BK336.out 1; have hfz67_2 := blk_frozen BK336.out 2; have hfz67_3 := blk_frozen BK336.out 3)); try go_wp2_with (first | (go_at_call 26; (with_reducible refine (ogivelaw10_do.calls kj17 (fun k_ => k_ ≠ gb336) _ _ x8_1 ((rd_T51 l1 x10_1).f0) ((rd_T51 l1 x10_1).f1) ((rd_T51 l1 x10_1).f2) t348 _ ?side1 A40.out).mono ?_); (case side1 => exact HO_8.out); rintro e w61 ⟨v349, rfl, ho0, hb⟩; have n0_ := Aside0.mk (Kd.V_below (by (with_reducible repeat (first | apply Kd.V_alloc | apply Kd.V_drewN | apply Kd.V_drew)); exact HO_8.out) hb); have n1_ := Aside0.mk (Kd.V_lower (Kd.V_mono (ok' := fun k_ => k_ ≠ gb336) ho0 (fun k_ hk_ => Or.elim hk_ (fun hs_ => hs_) (fun hn_ => (Kd.freshB (g := gb336) (o := .cells #[.int .i64 t332, .int .i64 t333, .string t334, .bool t335] 27 (0, 0)) (by (with_reducible repeat (first | refine blk_drewN ?_ _ | refine blk_drew ?_ | refine blk_alloc ?_ _)); exact BK336.out) k_ hn_)))) (below_size (by repeat (first | (with_reducible first | exact HB.out | apply below_alloc | apply pw_below_drewN | apply below_drew1 | refine below_set ?_ GE336.out) | exact HB.out)))); have n2_ := Aside0.mk (blk_below (g := gb336) (o := .cells #[.int .i64 t332, .int .i64 t333, .string t334, .bool t335] 27 (0, 0)) (by (with_reducible repeat (first | refine blk_drewN ?_ _ | refine blk_drew ?_ | refine blk_alloc ?_ _)); exact BK336.out) hb); have n3_ := Aside0.mk (below_step (by repeat (first | (with_reducible first | exact HB.out | apply below_alloc | apply pw_below_drewN | apply below_drew1 | refine below_set ?_ GE336.out) | exact HB.out)) hb); clear HO_8; clear BK336; clear HB; have HO_8 := n0_; have HO350 := n1_; have BK336 := n2_; have HB := n3_; clear n0_ n1_ n2_ n3_; (try clear hb); (try clear hb2); (try clear hk); (try clear hi); (try clear ho0); obtain ⟨Ao62, co62, eo62⟩ := Kd.V_slice HO350.out; subst eo62) | (go_at_call 11; (with_reducible refine (chain_Read.calls kj17 (fun k_ => k_ ≠ gb336) _ _ t348 a2 t351 t354 t355 t356 t357 _ ?side1 A41.out).mono ?_); (case side1 => exact HO350.out); rintro e w63 ⟨v352, rfl, ho0, hb⟩; have n0_ := Aside0.mk (Kd.V_below (by (with_reducible repeat (first | apply Kd.V_alloc | apply Kd.V_drewN | apply Kd.V_drew)); exact HO_8.out) hb); have n1_ := Aside0.mk (Kd.V_below (by (with_reducible repeat (first | apply Kd.V_alloc | apply Kd.V_drewN | apply Kd.V_drew)); exact HO350.out) hb); have n2_ := Aside0.mk (Kd.V_lower (Kd.V_mono (ok' := fun k_ => k_ ≠ gb336) ho0 (fun k_ hk_ => Or.elim hk_ (fun hs_ => hs_) (fun hn_ => (Kd.freshB (g := gb336) (o := .cells #[.int .i64 t332, .int .i64 t333, .string t334, .bool t335] 27 (0, 0)) (by (with_reducible repeat (first | refine blk_drewN ?_ _ | refine blk_drew ?_ | refine blk_alloc ?_ _)); exact BK336.out) k_ hn_)))) (below_size (by repeat (first | (with_reducible first | exact HB.out | apply below_alloc | apply pw_below_drewN | apply below_drew1 | refine below_set ?_ GE336.out) | exact HB.out)))); have n3_ := Aside0.mk (blk_below (g := gb336) (o := .cells #[.int .i64 t332, .int .i64 t333, .string t334, .bool t335] 27 (0, 0)) (by (with_reducible repeat (first | refine blk_drewN ?_ _ | refine blk_drew ?_ | refine blk_alloc ?_ _)); exact BK336.out) hb); have n4_ := Aside0.mk (below_step (by repeat (first | (with_reducible first | exact HB.out | apply below_alloc | apply pw_below_drewN | apply below_drew1 | refine below_set ?_ GE336.out) | exact HB.out)) hb); clear HO_8; clear HO350; clear BK336; clear HB; have HO_8 := n0_; have HO350 := n1_; have HO353 := n2_; have BK336 := n3_; have HB := n4_; clear n0_ n1_ n2_ n3_ n4_; (try clear hb); (try clear hb2); (try clear hk); (try clear hi); (try clear ho0)) | ((with_reducible refine gate_dst (N := 12) rfl ?_); refine box_event ?hg (N := 12) ?hd (cs := #[.int .i64 0, .int .i64 0, .string (⟨#[]⟩ : ByteArray), .bool false]) (t := 27) ?hr ?_; (case hd => rfl); (case hg => rfl); (case hr => first | (go_simp; done) | (go_simp; rfl)); intro gb358 hg w64 hbox hb; have n0_ := Aside0.mk (Kd.V_below (Kd.V_elderB (by (with_reducible repeat (first | apply Kd.V_alloc | apply Kd.V_drewN | apply Kd.V_drew)); exact HO_8.out) gb358 (Nat.le_of_eq hg.symm)) hb); have n1_ := Aside0.mk (Kd.V_below (Kd.V_elderB (by (with_reducible repeat (first | apply Kd.V_alloc | apply Kd.V_drewN | apply Kd.V_drew)); exact HO350.out) gb358 (Nat.le_of_eq hg.symm)) hb); have n2_ := Aside0.mk (Kd.V_below (Kd.V_elderB (by (with_reducible repeat (first | apply Kd.V_alloc | apply Kd.V_drewN | apply Kd.V_drew)); exact HO353.out) gb358 (Nat.le_of_eq hg.symm)) hb); have n3_ := Aside0.mk (blk_below (g := gb336) (o := .cells #[.int .i64 t332, .int .i64 t333, .string t334, .bool t335] 27 (0, 0)) (by (with_reducible repeat (first | refine blk_drewN ?_ _ | refine blk_drew ?_ | refine blk_alloc ?_ _)); exact BK336.out) hb); have n4_ := Aside0.mk (below_step (by repeat (first | (with_reducible first | exact HB.out | apply below_alloc | apply pw_below_drewN | apply below_drew1 | refine below_set ?_ GE336.out) | exact HB.out)) hb); have n5_ := Aside0.mk (hbox); have n6_ := Aside0.mk ((by rw [hg]; exact (below_size (by repeat (first | (with_reducible first | exact HB.out | apply below_alloc | apply pw_below_drewN | apply below_drew1 | refine below_set ?_ GE336.out) | exact HB.out))) : w.heap.size ≤ gb358)); have n7_ := Aside0.mk ((by rw [hg]; exact (below_size (by repeat (first | (with_reducible first | exact HB.out | apply below_alloc | apply pw_below_drewN | apply below_drew1 | refine below_set ?_ GE336.out) | exact HB.out))) : w.heap.size ≤ gb358)); have n8_ := Aside0.mk ((by rw [hg]; exact Nat.ne_of_lt (blk_lt (g := gb336) (o := .cells #[.int .i64 t332, .int .i64 t333, .string t334, .bool t335] 27 (0, 0)) (by (with_reducible repeat (first | refine blk_drewN ?_ _ | refine blk_drew ?_ | refine blk_alloc ?_ _)); exact BK336.out)) : gb336 ≠ gb358)); have n9_ := Aside0.mk ((by rw [hg]; exact Nat.ne_of_gt (blk_lt (g := gb336) (o := .cells #[.int .i64 t332, .int .i64 t333, .string t334, .bool t335] 27 (0, 0)) (by (with_reducible repeat (first | refine blk_drewN ?_ _ | refine blk_drew ?_ | refine blk_alloc ?_ _)); exact BK336.out)) : gb358 ≠ gb336)); clear HO_8; clear HO350; clear HO353; clear BK336; clear HB; have HO_8 := n0_; have HO350 := n1_; have HO353 := n2_; have BK336 := n3_; have HB := n4_; have BK358 := n5_; have GW358 := n6_; have GE358 := n7_; have NB336_358 := n8_; have NB358_336 := n9_; clear n0_ n1_ n2_ n3_ n4_ n5_ n6_ n7_ n8_ n9_; clear hb hbox hg; have hnb65 := NB358_336.out; have hnc65 := NB336_358.out; have hcz66_0 : w64.cell? ⟨gb358, 0, none⟩ = some (.int .i64 0) := (blk_cell BK358.out 0).trans rfl; have hcz66_1 : w64.cell? ⟨gb358, 1, none⟩ = some (.int .i64 0) := (blk_cell BK358.out 1).trans rfl; have hcz66_2 : w64.cell? ⟨gb358, 2, none⟩ = some (.string (⟨#[]⟩ : ByteArray)) := (blk_cell BK358.out 2).trans rfl; have hcz66_3 : w64.cell? ⟨gb358, 3, none⟩ = some (.bool false) := (blk_cell BK358.out 3).trans rfl; have hfz66_0 := blk_frozen BK358.out 0; have hfz66_1 := blk_frozen BK358.out 1; have hfz66_2 := blk_frozen BK358.out 2; have hfz66_3 := blk_frozen BK358.out 3; have hcz67_0 : w64.cell? ⟨gb336, 0, none⟩ = some (.int .i64 t332) := (blk_cell BK336.out 0).trans rfl; have hcz67_1 : w64.cell? ⟨gb336, 1, none⟩ = some (.int .i64 t333) := (blk_cell BK336.out 1).trans rfl; have hcz67_2 : w64.cell? ⟨gb336, 2, none⟩ = some (.string t334) := (blk_cell BK336.out 2).trans rfl; have hcz67_3 : w64.cell? ⟨gb336, 3, none⟩ = some (.bool t335) := (blk_cell BK336.out 3).trans rfl; have hfz67_0 := blk_frozen BK336.out 0; have hfz67_1 := blk_frozen BK336.out 1; have hfz67_2 := blk_frozen BK336.out 2; have hfz67_3 := blk_frozen BK336.out 3)))
                          go_ret
                          exact ⟨by first | rfl | (simp [errW_none, errW_some] <;> rfl) | (simp [*, errW_none, errW_some] <;> rfl), by repeat (first | (with_reducible first | exact HB.out | apply below_alloc | apply pw_below_drewN | apply below_drew1 | refine below_set ?_ GE336.out | refine below_set ?_ GE358.out) | exact HB.out)⟩
                      · rw [if_neg c39] at H
                        exact absurd H (by simp)
                    · rw [if_neg c38] at H
                      exact absurd H (by simp)
            · replace c17 := Bool.eq_false_iff.mpr c17
              subst c17
              have H1 : (some t325) = some r := by rw [if_neg (show ¬ (false = true) by decide)] at H; exact H
              clear H
              have H := H1
              clear H1
              obtain rfl := Option.some.inj H
              go_wp2
              repeat (go_quiet (fail); try go_wp2)
              go_ret
              exact ⟨by first | rfl | (simp [errW_none, errW_some] <;> rfl) | (simp [*, errW_none, errW_some] <;> rfl), by repeat (first | (with_reducible first | exact HB.out | apply below_alloc | apply pw_below_drewN | apply below_drew1 | refine below_set ?_ GE336.out) | exact HB.out)⟩

end Go.Proofs.Ytdiahlfhcbcceaa.P
