-- Written for this claim by a program of this seat's (wip/tools), by way of the kit's printing program; not one of its printed files. Lean checks it.
import Derived.Test.YtjomfmhgiecafaaPx0
import Derived.Test.YtjomfmhgiecafaaPx2
import Derived.Test.YtjomfmhgiecafaaPx7
import Derived.Test.YtjomfmhgiecafaaPx17
import Derived.Test.YtjomfmhgiecafaaPx18
namespace Go.Proofs.Ytjomfmhgiecafaa.P
open Go.RowKit Go.Proofs.YtjomfmhgiecafaaW.PrintWords Go.Proofs.YtjomfmhgiecafaaW.PrintLast Go.Proofs.YtjomfmhgiecafaaW.PrintMore
attribute [local go_sem] max2_int min2_int max_two min_two max_three min_three max_four min_four   -- for this text's walks alone
set_option linter.unusedVariables false
set_option linter.unusedSimpArgs false

/-! ### ogivelaw18_GateAges: function 6 -/
mutual
def ogivelaw18_GateAges.l0 : Nat → Int → List Bool → Bool → Int → Int → Int → Int → Int → Int → Bool → Option (Bool)
  | 0, _, _, _, _, _, _, _, _, _, _ => none
  | k + 1, x1, x2, x7, x8, x10, x11, x141000, x141001, x141002, x141003 => if x11 < (wrap64 (x8 * (wrap64 ((wrap64 (Int.tmod x1 20)) + 2)))) then (if x141002 = 0 then (if (x2.length : Int) > 0 then (if (x2.length : Int) = 0 then (none) else (if 0 ≤ (Int.tmod x11 (x2.length : Int)) then (if (Int.tmod x11 (x2.length : Int)) < (x2.length : Int) then (ogivelaw18_GateAges.j1 k x1 x2 x7 x8 x10 x11 (rdOf false x2 (Int.tmod x11 (x2.length : Int))) x141000 x141001 x141002 false) else (none)) else (none))) else (ogivelaw18_GateAges.j1 k x1 x2 x7 x8 x10 x11 false x141000 x141001 x141002 false)) else (ogivelaw18_GateAges.j1 k x1 x2 x7 x8 x10 x11 false x141000 x141001 x141002 false)) else (if x7 = true then ((gate_Aged.f x141000 x141001 x141002 x141003 x8).bind fun t141 => (if t141 = true then (if x141002 = 0 then (some (decide (x10 > 0))) else (some false)) else (some false))) else (some false))
def ogivelaw18_GateAges.j1 : Nat → Int → List Bool → Bool → Int → Int → Int → Bool → Int → Int → Int → Bool → Option (Bool)
  | 0, _, _, _, _, _, _, _, _, _, _, _ => none
  | k + 1, x1, x2, x7, x8, x10, x11, x45, x141000, x141001, x141002, x141003 => if x45 = true then ((gate_Lost.f k x141000 x141001 x141002 x141003 x8 (wrap64 (Int.tmod x1 20))).bind fun bt143 => (if bt143.2.1 > x8 then (some false) else (if bt143.2.2.1 < 0 then (some false) else (if bt143.2.2.1 > (wrap64 (Int.tmod x1 20)) then (some false) else (if bt143.1 = 3 then (ogivelaw18_GateAges.l0 k x1 x2 x7 x8 (wrap64 (x10 + 1)) (wrap64 (x11 + 1)) bt143.1 bt143.2.1 bt143.2.2.1 bt143.2.2.2) else (some false)))))) else ((gate_Denied.f x141000 x141001 x141002 x141003 x8).bind fun bt147 => (if bt147.2.1 > x8 then (some false) else (if bt147.2.2.1 < 0 then (some false) else (if bt147.2.2.1 > (wrap64 (Int.tmod x1 20)) then (some false) else (if bt147.1 = 3 then (ogivelaw18_GateAges.l0 k x1 x2 x7 x8 (wrap64 (x10 + 1)) (wrap64 (x11 + 1)) bt147.1 bt147.2.1 bt147.2.2.1 bt147.2.2.2) else (some false))))))
end
def ogivelaw18_GateAges.f (k : Nat) (a0 : Int) (a1 : Int) (l2 : List Bool) : Option (Bool) := (ogivelaw18_awake.f).bind fun t139 => (ogivelaw18_GateAges.l0 k a1 l2 t139 (wrap64 (1 + (wrap64 (Int.tmod a0 9)))) 0 0 3 0 0 false)
theorem ogivelaw18_GateAges.mono_l : ∀ k, (∀ y0 y1 y2 y3 y4 y5 y6 y7 y8 y9, LeO (ogivelaw18_GateAges.l0 k y0 y1 y2 y3 y4 y5 y6 y7 y8 y9) (ogivelaw18_GateAges.l0 (k + 1) y0 y1 y2 y3 y4 y5 y6 y7 y8 y9)) ∧ (∀ y0 y1 y2 y3 y4 y5 y6 y7 y8 y9 y10, LeO (ogivelaw18_GateAges.j1 k y0 y1 y2 y3 y4 y5 y6 y7 y8 y9 y10) (ogivelaw18_GateAges.j1 (k + 1) y0 y1 y2 y3 y4 y5 y6 y7 y8 y9 y10))
  | 0 => ⟨fun _ _ _ _ _ _ _ _ _ _ r h => by simp [ogivelaw18_GateAges.l0] at h, fun _ _ _ _ _ _ _ _ _ _ _ r h => by simp [ogivelaw18_GateAges.j1] at h⟩
  | k + 1 => by
    obtain ⟨ih0, ih1⟩ := ogivelaw18_GateAges.mono_l k
    refine ⟨?_, ?_⟩
    · intro y0 y1 y2 y3 y4 y5 y6 y7 y8 y9
      unfold ogivelaw18_GateAges.l0
      repeat' first
      | (with_reducible exact ih0 _ _ _ _ _ _ _ _ _ _)
      | (with_reducible exact ih1 _ _ _ _ _ _ _ _ _ _ _)
      | (with_reducible exact gate_Lost.mono _ _ _ _ _ _ _)
      | (with_reducible exact LeO.refl _)
      | (with_reducible exact LeO.none _)
      | (with_reducible refine LeO.ite ?_ ?_)
      | (with_reducible refine LeO.bind ?_ (fun _ => ?_))
      | exact ih0 _ _ _ _ _ _ _ _ _ _
      | exact ih1 _ _ _ _ _ _ _ _ _ _ _
      | exact gate_Lost.mono _ _ _ _ _ _ _
      | exact LeO.none _
      | refine LeO.ite ?_ ?_
      | refine LeO.bind ?_ (fun _ => ?_)
    · intro y0 y1 y2 y3 y4 y5 y6 y7 y8 y9 y10
      unfold ogivelaw18_GateAges.j1
      repeat' first
      | (with_reducible exact ih0 _ _ _ _ _ _ _ _ _ _)
      | (with_reducible exact ih1 _ _ _ _ _ _ _ _ _ _ _)
      | (with_reducible exact gate_Lost.mono _ _ _ _ _ _ _)
      | (with_reducible exact LeO.refl _)
      | (with_reducible exact LeO.none _)
      | (with_reducible refine LeO.ite ?_ ?_)
      | (with_reducible refine LeO.bind ?_ (fun _ => ?_))
      | exact ih0 _ _ _ _ _ _ _ _ _ _
      | exact ih1 _ _ _ _ _ _ _ _ _ _ _
      | exact gate_Lost.mono _ _ _ _ _ _ _
      | exact LeO.none _
      | refine LeO.ite ?_ ?_
      | refine LeO.bind ?_ (fun _ => ?_)
theorem ogivelaw18_GateAges.mono : ∀ a0 a1 a2 k, LeO (ogivelaw18_GateAges.f k a0 a1 a2) (ogivelaw18_GateAges.f (k + 1) a0 a1 a2) := by
  intro a0 a1 a2 k
  obtain ⟨ih0, ih1⟩ := ogivelaw18_GateAges.mono_l k
  unfold ogivelaw18_GateAges.f
  repeat' first
      | (with_reducible exact ih0 _ _ _ _ _ _ _ _ _ _)
      | (with_reducible exact ih1 _ _ _ _ _ _ _ _ _ _ _)
      | (with_reducible exact gate_Lost.mono _ _ _ _ _ _ _)
      | (with_reducible exact LeO.refl _)
      | (with_reducible exact LeO.none _)
      | (with_reducible refine LeO.ite ?_ ?_)
      | (with_reducible refine LeO.bind ?_ (fun _ => ?_))
      | exact ih0 _ _ _ _ _ _ _ _ _ _
      | exact ih1 _ _ _ _ _ _ _ _ _ _ _
      | exact gate_Lost.mono _ _ _ _ _ _ _
      | exact LeO.none _
      | refine LeO.ite ?_ ?_
      | refine LeO.bind ?_ (fun _ => ?_)
set_option maxHeartbeats 8000000 in
set_option maxRecDepth 100000 in
theorem ogivelaw18_GateAges.calls (k : Nat) (a0 : Int) (a1 : Int) (A2 : Option Addr) (c2 : Nat) (l2 : List Bool) (r : Bool) (w : World) (hr2 : Kd.C Kd.bool w A2 l2.length l2) (hc2 : l2.length ≤ c2) (h : ogivelaw18_GateAges.f k a0 a1 l2 = some r) :
    Calls Try.prog 6 #[.int .u8 a0, .int .u8 a1, .slice A2 l2.length c2] w fun e w' => e = .returned (.bool r) ∧ Below w.heap.size w w' := by
  have hu29 := Try.underlying29
  have HR2 := Aside0.mk hr2
  have HC2 := Aside0.mk hc2
  clear hr2 hc2
  have HB := Aside0.mk (Below.refl w.heap.size w)
  have H : ((ogivelaw18_awake.f).bind fun t139 => (ogivelaw18_GateAges.l0 k a1 l2 t139 (wrap64 (1 + (wrap64 (Int.tmod a0 9)))) 0 0 3 0 0 false)) = some r := h
  clear h
  replace H := Option.bind_eq_some_iff.mp H
  obtain ⟨t139, A40, H⟩ := H
  replace H : (ogivelaw18_GateAges.l0 k a1 l2 t139 (wrap64 (1 + (wrap64 (Int.tmod a0 9)))) 0 0 3 0 0 false) = some r := H
  have A4 := Aside0.mk A40
  clear A40
  have H' := Aside0.mk H
  clear H
  go_enter Try.func6, Try.ntmps6
  go_wp2_with (first | ((with_reducible refine gate_callee (f := 8) rfl ?_); refine goesL_ (some 12) rfl rfl Try.func8 (by kernel_rfl) rfl #[] rfl (by (try simp only [List.map_toArray, List.map_cons, List.map_nil]); first | done | rfl | (simp only [List.length_drop, List.length_take]; rfl)) ?_; (with_reducible refine (ogivelaw18_awake.calls  t139 _ A4.out).mono ?_); rintro e w5 ⟨rfl, hb⟩; refine ⟨_, rfl, ?_⟩; have n0_ := Aside0.mk (below_step (by repeat (first | (with_reducible first | exact HB.out | apply below_alloc | apply pw_below_drewN | apply below_drew1) | exact HB.out)) hb); clear HB; have HB := n0_; clear n0_; (try clear hb); (try clear hb2); (try clear hk); (try clear hi)) | ((with_reducible refine gate_dst (N := 9) rfl ?_); (try (refine gate_guard (by rfl) ?_; dsimp only)); refine box_event ?hg (N := 9) ?hd (cs := #[.int .i64 0, .int .i64 0, .int .i64 0, .bool false]) (t := 29) ?hr ?_; (case hd => rfl); (case hg => rfl); (case hr => first | (go_simp; done) | (go_simp; rfl)); intro gb140 hg w6 hbox hb; have n0_ := Aside0.mk (below_step (by repeat (first | (with_reducible first | exact HB.out | apply below_alloc | apply pw_below_drewN | apply below_drew1) | exact HB.out)) hb); have n1_ := Aside0.mk (hbox); have n2_ := Aside0.mk ((by rw [hg]; exact (below_size (by repeat (first | (with_reducible first | exact HB.out | apply below_alloc | apply pw_below_drewN | apply below_drew1) | exact HB.out))) : w.heap.size ≤ gb140)); have n3_ := Aside0.mk ((by rw [hg]; exact (below_size (by repeat (first | (with_reducible first | exact HB.out | apply below_alloc | apply pw_below_drewN | apply below_drew1) | exact HB.out))) : w.heap.size ≤ gb140)); clear HB; have HB := n0_; have BK140 := n1_; have GW140 := n2_; have GE140 := n3_; clear n0_ n1_ n2_ n3_; clear hb hbox hg; have hcz7_0 : w6.cell? ⟨gb140, 0, none⟩ = some (.int .i64 0) := (blk_cell BK140.out 0).trans rfl; have hcz7_1 : w6.cell? ⟨gb140, 1, none⟩ = some (.int .i64 0) := (blk_cell BK140.out 1).trans rfl; have hcz7_2 : w6.cell? ⟨gb140, 2, none⟩ = some (.int .i64 0) := (blk_cell BK140.out 2).trans rfl; have hcz7_3 : w6.cell? ⟨gb140, 3, none⟩ = some (.bool false) := (blk_cell BK140.out 3).trans rfl; have hfz7_0 := blk_frozen BK140.out 0; have hfz7_1 := blk_frozen BK140.out 1; have hfz7_2 := blk_frozen BK140.out 2; have hfz7_3 := blk_frozen BK140.out 3))
  go_loopg [10, 11] k (fun kq v10 v11 w' => ∃ (x10_1 : Int) (x11_1 : Int) (x141000_1 : Int) (x141001_1 : Int) (x141002_1 : Int) (x141003_1 : Bool), v10 = .int .i64 x10_1 ∧ v11 = .int .i64 x11_1 ∧ Aside0 (ogivelaw18_GateAges.l0 kq a1 l2 t139 (wrap64 (1 + (wrap64 (Int.tmod a0 9)))) x10_1 x11_1 x141000_1 x141001_1 x141002_1 x141003_1 = some r) ∧ Aside0 (kq ≤ k) ∧ Aside0 (w'.heap[gb140]? = some (.cells #[.int .i64 x141000_1, .int .i64 x141001_1, .int .i64 x141002_1, .bool x141003_1] 29 (0, 0))) ∧ Aside0 (Below w.heap.size w w'))
  case atStart => exact ⟨(0), (0), (3), (0), (0), (false), (by first | rfl | (simp; done) | (simp [*]; done)), (by first | rfl | (simp; done) | (simp [*]; done)), H', ⟨Nat.le_refl _⟩, ⟨by (with_reducible repeat (first | refine blk_drewN ?_ _ | refine blk_drew ?_ | refine blk_alloc ?_ _)); refine blk_put (cs := #[.int .i64 3, .int .i64 0, .int .i64 0, .bool false]) ?_ 3 _ rfl; (with_reducible repeat (first | refine blk_drewN ?_ _ | refine blk_drew ?_ | refine blk_alloc ?_ _)); refine blk_put (cs := #[.int .i64 3, .int .i64 0, .int .i64 0, .bool false]) ?_ 2 _ rfl; (with_reducible repeat (first | refine blk_drewN ?_ _ | refine blk_drew ?_ | refine blk_alloc ?_ _)); refine blk_put (cs := #[.int .i64 3, .int .i64 0, .int .i64 0, .bool false]) ?_ 1 _ rfl; (with_reducible repeat (first | refine blk_drewN ?_ _ | refine blk_drew ?_ | refine blk_alloc ?_ _)); refine blk_put (cs := #[.int .i64 0, .int .i64 0, .int .i64 0, .bool false]) ?_ 0 _ rfl; (with_reducible repeat (first | refine blk_drewN ?_ _ | refine blk_drew ?_ | refine blk_alloc ?_ _)); exact BK140.out⟩, ⟨by repeat (first | (with_reducible first | exact HB.out | apply below_alloc | apply pw_below_drewN | apply below_drew1 | refine below_set ?_ GE140.out) | exact HB.out)⟩⟩
  case round =>
    clear H'
    try clear c2
    try clear p2
    try clear c6
    try clear p6
    try clear hcz7_0
    try clear hcz7_1
    try clear hcz7_2
    try clear hcz7_3
    try clear hfz7_0
    try clear hfz7_1
    try clear hfz7_2
    try clear hfz7_3
    obtain ⟨x10_1, x11_1, x141000_1, x141001_1, x141002_1, x141003_1, rfl, rfl, HA, HK1, BK140, HB⟩ := hrel
    cases gk with
    | zero => exact absurd HA.out (by simp [ogivelaw18_GateAges.l0])
    | succ k1 =>
      have H := HA.out
      clear HA
      simp only [ogivelaw18_GateAges.l0] at H
      by_cases c8 : x11_1 < (wrap64 ((wrap64 (1 + (wrap64 (Int.tmod a0 9)))) * (wrap64 ((wrap64 (Int.tmod a1 20)) + 2))))
      · rw [if_pos c8] at H
        have c8b0 : decide (x11_1 < (wrap64 ((wrap64 (1 + (wrap64 (Int.tmod a0 9)))) * (wrap64 ((wrap64 (Int.tmod a1 20)) + 2))))) = true := decide_eq_true c8
        clear c8
        have HC9 := Aside0.mk H
        clear H
        have hcz10_0 : wr.cell? ⟨gb140, 0, none⟩ = some (.int .i64 x141000_1) := (blk_cell BK140.out 0).trans rfl
        have hcz10_1 : wr.cell? ⟨gb140, 1, none⟩ = some (.int .i64 x141001_1) := (blk_cell BK140.out 1).trans rfl
        have hcz10_2 : wr.cell? ⟨gb140, 2, none⟩ = some (.int .i64 x141002_1) := (blk_cell BK140.out 2).trans rfl
        have hcz10_3 : wr.cell? ⟨gb140, 3, none⟩ = some (.bool x141003_1) := (blk_cell BK140.out 3).trans rfl
        have hfz10_0 := blk_frozen BK140.out 0
        have hfz10_1 := blk_frozen BK140.out 1
        have hfz10_2 := blk_frozen BK140.out 2
        have hfz10_3 := blk_frozen BK140.out 3
        go_upto_region 9 with (fail)
        go_cut [45] (fun v45 wc => ∃ (kq : Nat) (x45_8 : Bool), v45 = .bool x45_8 ∧ Aside0 (ogivelaw18_GateAges.j1 kq a1 l2 t139 (wrap64 (1 + (wrap64 (Int.tmod a0 9)))) x10_1 x11_1 x45_8 x141000_1 x141001_1 x141002_1 false = some r) ∧ Aside0 (kq ≤ k1) ∧ Aside0 (wc.heap[gb140]? = some (.cells #[.int .i64 x141000_1, .int .i64 x141001_1, .int .i64 x141002_1, .bool false] 29 (0, 0))) ∧ Aside0 (Below w.heap.size w wc))
        case first =>
          have H := HC9.out
          clear HC9
          by_cases c11 : x141002_1 = 0
          · rw [if_pos c11] at H
            have c11b0 : (x141002_1 == 0) = true := beq_iff_eq.mpr c11
            have c11b1 : (x141002_1 != 0) = false := bne_eq_false_iff_eq.mpr c11
            clear c11
            (first | rw [c11b0] | (simp only [i64_w, i32_w]; rw [c11b0]) | skip)
            by_cases c12 : (l2.length : Int) > 0
            · rw [if_pos c12] at H
              have c12b0 : decide (0 < (l2.length : Int)) = true := decide_eq_true c12
              have c12b1 : decide (0 < l2.length) = true := decide_eq_true (by omega)
              clear c12
              by_cases c13 : (l2.length : Int) = 0
              · rw [if_pos c13] at H
                exact absurd H (by simp)
              · rw [if_neg c13] at H
                have c13b0 : ((l2.length : Int) == 0) = false := beq_eq_false_iff_ne.mpr c13
                have c13b1 : ((l2.length : Int) != 0) = true := bne_iff_ne.mpr c13
                have c13b2 : ¬ (l2 = []) := fun h_ => c13 (by rw [h_]; rfl)
                obtain ⟨ji14, hji14⟩ : ∃ j_ : Int, (Int.tmod x11_1 (l2.length : Int)) = j_ := ⟨_, rfl⟩
                replace H : (if 0 ≤ (ji14) then (if (ji14) < (l2.length : Int) then (ogivelaw18_GateAges.j1 k1 a1 l2 t139 (wrap64 (1 + (wrap64 (Int.tmod a0 9)))) x10_1 x11_1 (rdOf false l2 (ji14)) x141000_1 x141001_1 x141002_1 false) else (none)) else (none)) = some r := by first | (rw [hji14] at H; exact H) | (simp only [hji14] at H ⊢; exact H)
                by_cases c15 : 0 ≤ (ji14)
                · rw [if_pos c15] at H
                  have c15b0 : decide (0 ≤ (ji14)) = true := decide_eq_true c15
                  clear c15
                  by_cases c16 : (ji14) < (l2.length : Int)
                  · rw [if_pos c16] at H
                    have c16b0 : decide ((ji14) < (l2.length : Int)) = true := decide_eq_true c16
                    clear c16
                    have H' := Aside0.mk H
                    clear H
                    have hcz17_0 : wr.cell? ⟨gb140, 0, none⟩ = some (.int .i64 x141000_1) := (blk_cell BK140.out 0).trans rfl
                    have hcz17_1 : wr.cell? ⟨gb140, 1, none⟩ = some (.int .i64 x141001_1) := (blk_cell BK140.out 1).trans rfl
                    have hcz17_2 : wr.cell? ⟨gb140, 2, none⟩ = some (.int .i64 x141002_1) := (blk_cell BK140.out 2).trans rfl
                    have hcz17_3 : wr.cell? ⟨gb140, 3, none⟩ = some (.bool x141003_1) := (blk_cell BK140.out 3).trans rfl
                    have hfz17_0 := blk_frozen BK140.out 0
                    have hfz17_1 := blk_frozen BK140.out 1
                    have hfz17_2 := blk_frozen BK140.out 2
                    have hfz17_3 := blk_frozen BK140.out 3
                    have p142 : 0 ≤ ((ji14) : Int) := of_decide_eq_true (by first | (with_reducible assumption) | assumption)
                    have q142 : (ji14) < (l2.length : Int) := of_decide_eq_true (by first | (with_reducible assumption) | assumption)
                    obtain ⟨ad142, e142, hx142_0⟩ := Kd.at_bool HR2.out (ji14) p142 q142
                    cases e142
                    have hn142_0 : ad142.block ≠ gb140 := Nat.ne_of_lt (Nat.lt_of_lt_of_le (by have := World.block_lt_of_cell? _ _ hx142_0; first | rwa [add_block] at this | exact this) GW140.out)
                    replace hx142_0 := (HB.out.cell (World.block_lt_of_cell? w _ hx142_0)).trans hx142_0
                    replace hx142_0 := (cell_far (p := ⟨gb140, 3, none⟩) (by first | (rw [add_block]; exact hn142_0) | (show (Addr.add _ _).block ≠ _; rw [add_block]; exact hn142_0) | exact hn142_0) (.bool false)).trans hx142_0
                    clear hn142_0
                    replace p142 := eq_true p142
                    replace q142 := eq_true q142
                    go_wp2
                    go_meet
                    case rel => exact ⟨_, (rdOf false l2 (ji14)), (by first | rfl | (simp; done) | (simp only [← hji14] <;> (first | rfl | simp)) | (simp [*]; done)), H', ⟨by have := HK1.out; first | omega | exact Nat.le_refl _⟩, ⟨by (with_reducible repeat (first | refine blk_drewN ?_ _ | refine blk_drew ?_ | refine blk_alloc ?_ _)); refine blk_put (cs := #[.int .i64 x141000_1, .int .i64 x141001_1, .int .i64 x141002_1, .bool x141003_1]) ?_ 3 _ rfl; (with_reducible repeat (first | refine blk_drewN ?_ _ | refine blk_drew ?_ | refine blk_alloc ?_ _)); exact BK140.out⟩, ⟨by repeat (first | (with_reducible first | exact HB.out | apply below_alloc | apply pw_below_drewN | apply below_drew1 | refine below_set ?_ GE140.out) | exact HB.out)⟩⟩
                  · rw [if_neg c16] at H
                    exact absurd H (by simp)
                · rw [if_neg c15] at H
                  exact absurd H (by simp)
            · rw [if_neg c12] at H
              have c12b0 : decide (0 < (l2.length : Int)) = false := decide_eq_false c12
              have c12b1 : decide (0 < l2.length) = false := decide_eq_false (by omega)
              clear c12
              have H' := Aside0.mk H
              clear H
              have hcz18_0 : wr.cell? ⟨gb140, 0, none⟩ = some (.int .i64 x141000_1) := (blk_cell BK140.out 0).trans rfl
              have hcz18_1 : wr.cell? ⟨gb140, 1, none⟩ = some (.int .i64 x141001_1) := (blk_cell BK140.out 1).trans rfl
              have hcz18_2 : wr.cell? ⟨gb140, 2, none⟩ = some (.int .i64 x141002_1) := (blk_cell BK140.out 2).trans rfl
              have hcz18_3 : wr.cell? ⟨gb140, 3, none⟩ = some (.bool x141003_1) := (blk_cell BK140.out 3).trans rfl
              have hfz18_0 := blk_frozen BK140.out 0
              have hfz18_1 := blk_frozen BK140.out 1
              have hfz18_2 := blk_frozen BK140.out 2
              have hfz18_3 := blk_frozen BK140.out 3
              go_wp2
              go_meet
              case rel => exact ⟨_, (false), (by first | rfl | (simp; done) | (simp [*]; done)), H', ⟨by have := HK1.out; first | omega | exact Nat.le_refl _⟩, ⟨by (with_reducible repeat (first | refine blk_drewN ?_ _ | refine blk_drew ?_ | refine blk_alloc ?_ _)); refine blk_put (cs := #[.int .i64 x141000_1, .int .i64 x141001_1, .int .i64 x141002_1, .bool x141003_1]) ?_ 3 _ rfl; (with_reducible repeat (first | refine blk_drewN ?_ _ | refine blk_drew ?_ | refine blk_alloc ?_ _)); exact BK140.out⟩, ⟨by repeat (first | (with_reducible first | exact HB.out | apply below_alloc | apply pw_below_drewN | apply below_drew1 | refine below_set ?_ GE140.out) | exact HB.out)⟩⟩
          · rw [if_neg c11] at H
            have c11b0 : (x141002_1 == 0) = false := beq_eq_false_iff_ne.mpr c11
            have c11b1 : (x141002_1 != 0) = true := bne_iff_ne.mpr c11
            (first | rw [c11b0] | (simp only [i64_w, i32_w]; rw [c11b0]) | skip)
            have H' := Aside0.mk H
            clear H
            have hcz19_0 : wr.cell? ⟨gb140, 0, none⟩ = some (.int .i64 x141000_1) := (blk_cell BK140.out 0).trans rfl
            have hcz19_1 : wr.cell? ⟨gb140, 1, none⟩ = some (.int .i64 x141001_1) := (blk_cell BK140.out 1).trans rfl
            have hcz19_2 : wr.cell? ⟨gb140, 2, none⟩ = some (.int .i64 x141002_1) := (blk_cell BK140.out 2).trans rfl
            have hcz19_3 : wr.cell? ⟨gb140, 3, none⟩ = some (.bool x141003_1) := (blk_cell BK140.out 3).trans rfl
            have hfz19_0 := blk_frozen BK140.out 0
            have hfz19_1 := blk_frozen BK140.out 1
            have hfz19_2 := blk_frozen BK140.out 2
            have hfz19_3 := blk_frozen BK140.out 3
            go_wp2
            go_meet
            case rel => exact ⟨_, (false), (by first | rfl | (simp; done) | (simp [*]; done)), H', ⟨by have := HK1.out; first | omega | exact Nat.le_refl _⟩, ⟨by (with_reducible repeat (first | refine blk_drewN ?_ _ | refine blk_drew ?_ | refine blk_alloc ?_ _)); refine blk_put (cs := #[.int .i64 x141000_1, .int .i64 x141001_1, .int .i64 x141002_1, .bool x141003_1]) ?_ 3 _ rfl; (with_reducible repeat (first | refine blk_drewN ?_ _ | refine blk_drew ?_ | refine blk_alloc ?_ _)); exact BK140.out⟩, ⟨by repeat (first | (with_reducible first | exact HB.out | apply below_alloc | apply pw_below_drewN | apply below_drew1 | refine below_set ?_ GE140.out) | exact HB.out)⟩⟩
        case rest =>
          clear HC9
          try clear c1
          try clear p1
          try clear q1
          try clear hx1
          try clear c2
          try clear p2
          try clear c6
          try clear p6
          try clear c8
          try clear c8b0
          try clear c11
          try clear c11b0
          try clear c11b1
          try clear c12
          try clear c12b0
          try clear c12b1
          try clear c13
          try clear c13b0
          try clear c13b1
          try clear c13b2
          try clear p14
          try clear q14
          try clear hx14
          try clear c15
          try clear c15b0
          try clear c16
          try clear c16b0
          try clear hcz10_0
          try clear hcz10_1
          try clear hcz10_2
          try clear hcz10_3
          try clear hcz17_0
          try clear hcz17_1
          try clear hcz17_2
          try clear hcz17_3
          try clear hcz18_0
          try clear hcz18_1
          try clear hcz18_2
          try clear hcz18_3
          try clear hcz19_0
          try clear hcz19_1
          try clear hcz19_2
          try clear hcz19_3
          try clear hcz7_0
          try clear hcz7_1
          try clear hcz7_2
          try clear hcz7_3
          try clear hfz10_0
          try clear hfz10_1
          try clear hfz10_2
          try clear hfz10_3
          try clear hfz17_0
          try clear hfz17_1
          try clear hfz17_2
          try clear hfz17_3
          try clear hfz18_0
          try clear hfz18_1
          try clear hfz18_2
          try clear hfz18_3
          try clear hfz19_0
          try clear hfz19_1
          try clear hfz19_2
          try clear hfz19_3
          try clear hfz7_0
          try clear hfz7_1
          try clear hfz7_2
          try clear hfz7_3
          try clear hx142_0
          try clear p142
          try clear p2
          try clear p6
          try clear q142
          obtain ⟨kq, x45_8, rfl, HA, HJ8, BK140, HB⟩ := hcut
          cases kq with
          | zero => exact absurd HA.out (by simp [ogivelaw18_GateAges.j1])
          | succ kj8 =>
            have H := HA.out
            clear HA
            simp only [ogivelaw18_GateAges.j1] at H
            by_cases c20 : x45_8 = true
            · subst c20
              have H1 : ((gate_Lost.f kj8 x141000_1 x141001_1 x141002_1 false (wrap64 (1 + (wrap64 (Int.tmod a0 9)))) (wrap64 (Int.tmod a1 20))).bind fun bt143 => (if bt143.2.1 > (wrap64 (1 + (wrap64 (Int.tmod a0 9)))) then (some false) else (if bt143.2.2.1 < 0 then (some false) else (if bt143.2.2.1 > (wrap64 (Int.tmod a1 20)) then (some false) else (if bt143.1 = 3 then (ogivelaw18_GateAges.l0 kj8 a1 l2 t139 (wrap64 (1 + (wrap64 (Int.tmod a0 9)))) (wrap64 (x10_1 + 1)) (wrap64 (x11_1 + 1)) bt143.1 bt143.2.1 bt143.2.2.1 bt143.2.2.2) else (some false)))))) = some r := by rw [if_pos rfl] at H; exact H
              clear H
              have H := H1
              clear H1
              replace H := Option.bind_eq_some_iff.mp H
              obtain ⟨⟨t143, t144, t145, t146⟩, A210, H⟩ := H
              replace H : (if t144 > (wrap64 (1 + (wrap64 (Int.tmod a0 9)))) then (some false) else (if t145 < 0 then (some false) else (if t145 > (wrap64 (Int.tmod a1 20)) then (some false) else (if t143 = 3 then (ogivelaw18_GateAges.l0 kj8 a1 l2 t139 (wrap64 (1 + (wrap64 (Int.tmod a0 9)))) (wrap64 (x10_1 + 1)) (wrap64 (x11_1 + 1)) t143 t144 t145 t146) else (some false))))) = some r := H
              have A21 := Aside0.mk A210
              clear A210
              by_cases c22 : t144 > (wrap64 (1 + (wrap64 (Int.tmod a0 9))))
              · rw [if_pos c22] at H
                have c22b0 : decide ((wrap64 (1 + (wrap64 (Int.tmod a0 9)))) < t144) = true := decide_eq_true c22
                clear c22
                obtain rfl := Option.some.inj H
                have hcz23_0 : wc.cell? ⟨gb140, 0, none⟩ = some (.int .i64 x141000_1) := (blk_cell BK140.out 0).trans rfl
                have hcz23_1 : wc.cell? ⟨gb140, 1, none⟩ = some (.int .i64 x141001_1) := (blk_cell BK140.out 1).trans rfl
                have hcz23_2 : wc.cell? ⟨gb140, 2, none⟩ = some (.int .i64 x141002_1) := (blk_cell BK140.out 2).trans rfl
                have hcz23_3 : wc.cell? ⟨gb140, 3, none⟩ = some (.bool false) := (blk_cell BK140.out 3).trans rfl
                have hfz23_0 := blk_frozen BK140.out 0
                have hfz23_1 := blk_frozen BK140.out 1
                have hfz23_2 := blk_frozen BK140.out 2
                have hfz23_3 := blk_frozen BK140.out 3
                go_wp2_with (first | ((with_reducible refine gate_callee (f := 20) rfl ?_); refine goesL_ (some 51) rfl rfl Try.func20 (by kernel_rfl) rfl #[.agg #[.int .i64 x141000_1, .int .i64 x141001_1, .int .i64 x141002_1, .bool false], .int .i64 (wrap64 (1 + (wrap64 (Int.tmod a0 9)))), .int .i64 (wrap64 (Int.tmod a1 20))] rfl (by (try simp only [List.map_toArray, List.map_cons, List.map_nil]); first | done | rfl | (simp only [List.length_drop, List.length_take]; rfl)) ?_; (with_reducible refine (gate_Lost.calls kj8 x141000_1 x141001_1 x141002_1 false (wrap64 (1 + (wrap64 (Int.tmod a0 9)))) (wrap64 (Int.tmod a1 20)) t143 t144 t145 t146 _ A21.out).mono ?_); rintro e w24 ⟨rfl, hb⟩; refine ⟨_, rfl, ?_⟩; have n0_ := Aside0.mk (blk_below (g := gb140) (o := .cells #[.int .i64 x141000_1, .int .i64 x141001_1, .int .i64 x141002_1, .bool false] 29 (0, 0)) (by (with_reducible repeat (first | refine blk_drewN ?_ _ | refine blk_drew ?_ | refine blk_alloc ?_ _)); exact BK140.out) hb); have n1_ := Aside0.mk (below_step (by repeat (first | (with_reducible first | exact HB.out | apply below_alloc | apply pw_below_drewN | apply below_drew1 | refine below_set ?_ GE140.out) | exact HB.out)) hb); clear BK140; clear HB; have BK140 := n0_; have HB := n1_; clear n0_ n1_; (try clear hb); (try clear hb2); (try clear hk); (try clear hi); have hcz25_0 : w24.cell? ⟨gb140, 0, none⟩ = some (.int .i64 x141000_1) := (blk_cell BK140.out 0).trans rfl; have hcz25_1 : w24.cell? ⟨gb140, 1, none⟩ = some (.int .i64 x141001_1) := (blk_cell BK140.out 1).trans rfl; have hcz25_2 : w24.cell? ⟨gb140, 2, none⟩ = some (.int .i64 x141002_1) := (blk_cell BK140.out 2).trans rfl; have hcz25_3 : w24.cell? ⟨gb140, 3, none⟩ = some (.bool false) := (blk_cell BK140.out 3).trans rfl; have hfz25_0 := blk_frozen BK140.out 0; have hfz25_1 := blk_frozen BK140.out 1; have hfz25_2 := blk_frozen BK140.out 2; have hfz25_3 := blk_frozen BK140.out 3))
                go_ret
                exact ⟨by first | rfl | (simp [errW_none, errW_some] <;> rfl) | (simp [*, errW_none, errW_some] <;> rfl), by repeat (first | (with_reducible first | exact HB.out | apply below_alloc | apply pw_below_drewN | apply below_drew1 | refine below_set ?_ GE140.out) | exact HB.out)⟩
              · rw [if_neg c22] at H
                have c22b0 : decide ((wrap64 (1 + (wrap64 (Int.tmod a0 9)))) < t144) = false := decide_eq_false c22
                clear c22
                by_cases c26 : t145 < 0
                · rw [if_pos c26] at H
                  have c26b0 : decide (t145 < 0) = true := decide_eq_true c26
                  clear c26
                  obtain rfl := Option.some.inj H
                  have hcz27_0 : wc.cell? ⟨gb140, 0, none⟩ = some (.int .i64 x141000_1) := (blk_cell BK140.out 0).trans rfl
                  have hcz27_1 : wc.cell? ⟨gb140, 1, none⟩ = some (.int .i64 x141001_1) := (blk_cell BK140.out 1).trans rfl
                  have hcz27_2 : wc.cell? ⟨gb140, 2, none⟩ = some (.int .i64 x141002_1) := (blk_cell BK140.out 2).trans rfl
                  have hcz27_3 : wc.cell? ⟨gb140, 3, none⟩ = some (.bool false) := (blk_cell BK140.out 3).trans rfl
                  have hfz27_0 := blk_frozen BK140.out 0
                  have hfz27_1 := blk_frozen BK140.out 1
                  have hfz27_2 := blk_frozen BK140.out 2
                  have hfz27_3 := blk_frozen BK140.out 3
                  go_wp2_with (first | ((with_reducible refine gate_callee (f := 20) rfl ?_); refine goesL_ (some 51) rfl rfl Try.func20 (by kernel_rfl) rfl #[.agg #[.int .i64 x141000_1, .int .i64 x141001_1, .int .i64 x141002_1, .bool false], .int .i64 (wrap64 (1 + (wrap64 (Int.tmod a0 9)))), .int .i64 (wrap64 (Int.tmod a1 20))] rfl (by (try simp only [List.map_toArray, List.map_cons, List.map_nil]); first | done | rfl | (simp only [List.length_drop, List.length_take]; rfl)) ?_; (with_reducible refine (gate_Lost.calls kj8 x141000_1 x141001_1 x141002_1 false (wrap64 (1 + (wrap64 (Int.tmod a0 9)))) (wrap64 (Int.tmod a1 20)) t143 t144 t145 t146 _ A21.out).mono ?_); rintro e w28 ⟨rfl, hb⟩; refine ⟨_, rfl, ?_⟩; have n0_ := Aside0.mk (blk_below (g := gb140) (o := .cells #[.int .i64 x141000_1, .int .i64 x141001_1, .int .i64 x141002_1, .bool false] 29 (0, 0)) (by (with_reducible repeat (first | refine blk_drewN ?_ _ | refine blk_drew ?_ | refine blk_alloc ?_ _)); exact BK140.out) hb); have n1_ := Aside0.mk (below_step (by repeat (first | (with_reducible first | exact HB.out | apply below_alloc | apply pw_below_drewN | apply below_drew1 | refine below_set ?_ GE140.out) | exact HB.out)) hb); clear BK140; clear HB; have BK140 := n0_; have HB := n1_; clear n0_ n1_; (try clear hb); (try clear hb2); (try clear hk); (try clear hi); have hcz29_0 : w28.cell? ⟨gb140, 0, none⟩ = some (.int .i64 x141000_1) := (blk_cell BK140.out 0).trans rfl; have hcz29_1 : w28.cell? ⟨gb140, 1, none⟩ = some (.int .i64 x141001_1) := (blk_cell BK140.out 1).trans rfl; have hcz29_2 : w28.cell? ⟨gb140, 2, none⟩ = some (.int .i64 x141002_1) := (blk_cell BK140.out 2).trans rfl; have hcz29_3 : w28.cell? ⟨gb140, 3, none⟩ = some (.bool false) := (blk_cell BK140.out 3).trans rfl; have hfz29_0 := blk_frozen BK140.out 0; have hfz29_1 := blk_frozen BK140.out 1; have hfz29_2 := blk_frozen BK140.out 2; have hfz29_3 := blk_frozen BK140.out 3))
                  go_ret
                  exact ⟨by first | rfl | (simp [errW_none, errW_some] <;> rfl) | (simp [*, errW_none, errW_some] <;> rfl), by repeat (first | (with_reducible first | exact HB.out | apply below_alloc | apply pw_below_drewN | apply below_drew1 | refine below_set ?_ GE140.out) | exact HB.out)⟩
                · rw [if_neg c26] at H
                  have c26b0 : decide (t145 < 0) = false := decide_eq_false c26
                  clear c26
                  by_cases c30 : t145 > (wrap64 (Int.tmod a1 20))
                  · rw [if_pos c30] at H
                    have c30b0 : decide ((wrap64 (Int.tmod a1 20)) < t145) = true := decide_eq_true c30
                    clear c30
                    obtain rfl := Option.some.inj H
                    have hcz31_0 : wc.cell? ⟨gb140, 0, none⟩ = some (.int .i64 x141000_1) := (blk_cell BK140.out 0).trans rfl
                    have hcz31_1 : wc.cell? ⟨gb140, 1, none⟩ = some (.int .i64 x141001_1) := (blk_cell BK140.out 1).trans rfl
                    have hcz31_2 : wc.cell? ⟨gb140, 2, none⟩ = some (.int .i64 x141002_1) := (blk_cell BK140.out 2).trans rfl
                    have hcz31_3 : wc.cell? ⟨gb140, 3, none⟩ = some (.bool false) := (blk_cell BK140.out 3).trans rfl
                    have hfz31_0 := blk_frozen BK140.out 0
                    have hfz31_1 := blk_frozen BK140.out 1
                    have hfz31_2 := blk_frozen BK140.out 2
                    have hfz31_3 := blk_frozen BK140.out 3
                    go_wp2_with (first | ((with_reducible refine gate_callee (f := 20) rfl ?_); refine goesL_ (some 51) rfl rfl Try.func20 (by kernel_rfl) rfl #[.agg #[.int .i64 x141000_1, .int .i64 x141001_1, .int .i64 x141002_1, .bool false], .int .i64 (wrap64 (1 + (wrap64 (Int.tmod a0 9)))), .int .i64 (wrap64 (Int.tmod a1 20))] rfl (by (try simp only [List.map_toArray, List.map_cons, List.map_nil]); first | done | rfl | (simp only [List.length_drop, List.length_take]; rfl)) ?_; (with_reducible refine (gate_Lost.calls kj8 x141000_1 x141001_1 x141002_1 false (wrap64 (1 + (wrap64 (Int.tmod a0 9)))) (wrap64 (Int.tmod a1 20)) t143 t144 t145 t146 _ A21.out).mono ?_); rintro e w32 ⟨rfl, hb⟩; refine ⟨_, rfl, ?_⟩; have n0_ := Aside0.mk (blk_below (g := gb140) (o := .cells #[.int .i64 x141000_1, .int .i64 x141001_1, .int .i64 x141002_1, .bool false] 29 (0, 0)) (by (with_reducible repeat (first | refine blk_drewN ?_ _ | refine blk_drew ?_ | refine blk_alloc ?_ _)); exact BK140.out) hb); have n1_ := Aside0.mk (below_step (by repeat (first | (with_reducible first | exact HB.out | apply below_alloc | apply pw_below_drewN | apply below_drew1 | refine below_set ?_ GE140.out) | exact HB.out)) hb); clear BK140; clear HB; have BK140 := n0_; have HB := n1_; clear n0_ n1_; (try clear hb); (try clear hb2); (try clear hk); (try clear hi); have hcz33_0 : w32.cell? ⟨gb140, 0, none⟩ = some (.int .i64 x141000_1) := (blk_cell BK140.out 0).trans rfl; have hcz33_1 : w32.cell? ⟨gb140, 1, none⟩ = some (.int .i64 x141001_1) := (blk_cell BK140.out 1).trans rfl; have hcz33_2 : w32.cell? ⟨gb140, 2, none⟩ = some (.int .i64 x141002_1) := (blk_cell BK140.out 2).trans rfl; have hcz33_3 : w32.cell? ⟨gb140, 3, none⟩ = some (.bool false) := (blk_cell BK140.out 3).trans rfl; have hfz33_0 := blk_frozen BK140.out 0; have hfz33_1 := blk_frozen BK140.out 1; have hfz33_2 := blk_frozen BK140.out 2; have hfz33_3 := blk_frozen BK140.out 3))
                    go_ret
                    exact ⟨by first | rfl | (simp [errW_none, errW_some] <;> rfl) | (simp [*, errW_none, errW_some] <;> rfl), by repeat (first | (with_reducible first | exact HB.out | apply below_alloc | apply pw_below_drewN | apply below_drew1 | refine below_set ?_ GE140.out) | exact HB.out)⟩
                  · rw [if_neg c30] at H
                    have c30b0 : decide ((wrap64 (Int.tmod a1 20)) < t145) = false := decide_eq_false c30
                    clear c30
                    by_cases c34 : t143 = 3
                    · rw [if_pos c34] at H
                      have c34b0 : (t143 == 3) = true := beq_iff_eq.mpr c34
                      have c34b1 : (t143 != 3) = false := bne_eq_false_iff_eq.mpr c34
                      clear c34
                      have H' := Aside0.mk H
                      clear H
                      have hcz35_0 : wc.cell? ⟨gb140, 0, none⟩ = some (.int .i64 x141000_1) := (blk_cell BK140.out 0).trans rfl
                      have hcz35_1 : wc.cell? ⟨gb140, 1, none⟩ = some (.int .i64 x141001_1) := (blk_cell BK140.out 1).trans rfl
                      have hcz35_2 : wc.cell? ⟨gb140, 2, none⟩ = some (.int .i64 x141002_1) := (blk_cell BK140.out 2).trans rfl
                      have hcz35_3 : wc.cell? ⟨gb140, 3, none⟩ = some (.bool false) := (blk_cell BK140.out 3).trans rfl
                      have hfz35_0 := blk_frozen BK140.out 0
                      have hfz35_1 := blk_frozen BK140.out 1
                      have hfz35_2 := blk_frozen BK140.out 2
                      have hfz35_3 := blk_frozen BK140.out 3
                      go_wp2_with (first | ((with_reducible refine gate_callee (f := 20) rfl ?_); refine goesL_ (some 51) rfl rfl Try.func20 (by kernel_rfl) rfl #[.agg #[.int .i64 x141000_1, .int .i64 x141001_1, .int .i64 x141002_1, .bool false], .int .i64 (wrap64 (1 + (wrap64 (Int.tmod a0 9)))), .int .i64 (wrap64 (Int.tmod a1 20))] rfl (by (try simp only [List.map_toArray, List.map_cons, List.map_nil]); first | done | rfl | (simp only [List.length_drop, List.length_take]; rfl)) ?_; (with_reducible refine (gate_Lost.calls kj8 x141000_1 x141001_1 x141002_1 false (wrap64 (1 + (wrap64 (Int.tmod a0 9)))) (wrap64 (Int.tmod a1 20)) t143 t144 t145 t146 _ A21.out).mono ?_); rintro e w36 ⟨rfl, hb⟩; refine ⟨_, rfl, ?_⟩; have n0_ := Aside0.mk (blk_below (g := gb140) (o := .cells #[.int .i64 x141000_1, .int .i64 x141001_1, .int .i64 x141002_1, .bool false] 29 (0, 0)) (by (with_reducible repeat (first | refine blk_drewN ?_ _ | refine blk_drew ?_ | refine blk_alloc ?_ _)); exact BK140.out) hb); have n1_ := Aside0.mk (below_step (by repeat (first | (with_reducible first | exact HB.out | apply below_alloc | apply pw_below_drewN | apply below_drew1 | refine below_set ?_ GE140.out) | exact HB.out)) hb); clear BK140; clear HB; have BK140 := n0_; have HB := n1_; clear n0_ n1_; (try clear hb); (try clear hb2); (try clear hk); (try clear hi); have hcz37_0 : w36.cell? ⟨gb140, 0, none⟩ = some (.int .i64 x141000_1) := (blk_cell BK140.out 0).trans rfl; have hcz37_1 : w36.cell? ⟨gb140, 1, none⟩ = some (.int .i64 x141001_1) := (blk_cell BK140.out 1).trans rfl; have hcz37_2 : w36.cell? ⟨gb140, 2, none⟩ = some (.int .i64 x141002_1) := (blk_cell BK140.out 2).trans rfl; have hcz37_3 : w36.cell? ⟨gb140, 3, none⟩ = some (.bool false) := (blk_cell BK140.out 3).trans rfl; have hfz37_0 := blk_frozen BK140.out 0; have hfz37_1 := blk_frozen BK140.out 1; have hfz37_2 := blk_frozen BK140.out 2; have hfz37_3 := blk_frozen BK140.out 3))
                      go_roundg kj8
                      case measure => have := HK1.out; have := HJ8.out; omega
                      case rel => exact ⟨(wrap64 (x10_1 + 1)), (wrap64 (x11_1 + 1)), (t143), (t144), (t145), (t146), (by first | rfl | (simp; done) | (simp [*]; done)), (by first | rfl | (simp; done) | (simp [*]; done)), H', ⟨by have := HK1.out; have := HJ8.out; omega⟩, ⟨by (with_reducible repeat (first | refine blk_drewN ?_ _ | refine blk_drew ?_ | refine blk_alloc ?_ _)); refine blk_put (cs := #[.int .i64 t143, .int .i64 t144, .int .i64 t145, .bool false]) ?_ 3 _ rfl; (with_reducible repeat (first | refine blk_drewN ?_ _ | refine blk_drew ?_ | refine blk_alloc ?_ _)); refine blk_put (cs := #[.int .i64 t143, .int .i64 t144, .int .i64 x141002_1, .bool false]) ?_ 2 _ rfl; (with_reducible repeat (first | refine blk_drewN ?_ _ | refine blk_drew ?_ | refine blk_alloc ?_ _)); refine blk_put (cs := #[.int .i64 t143, .int .i64 x141001_1, .int .i64 x141002_1, .bool false]) ?_ 1 _ rfl; (with_reducible repeat (first | refine blk_drewN ?_ _ | refine blk_drew ?_ | refine blk_alloc ?_ _)); refine blk_put (cs := #[.int .i64 x141000_1, .int .i64 x141001_1, .int .i64 x141002_1, .bool false]) ?_ 0 _ rfl; (with_reducible repeat (first | refine blk_drewN ?_ _ | refine blk_drew ?_ | refine blk_alloc ?_ _)); exact BK140.out⟩, ⟨by repeat (first | (with_reducible first | exact HB.out | apply below_alloc | apply pw_below_drewN | apply below_drew1 | refine below_set ?_ GE140.out) | exact HB.out)⟩⟩
                    · rw [if_neg c34] at H
                      have c34b0 : (t143 == 3) = false := beq_eq_false_iff_ne.mpr c34
                      have c34b1 : (t143 != 3) = true := bne_iff_ne.mpr c34
                      obtain rfl := Option.some.inj H
                      have hcz38_0 : wc.cell? ⟨gb140, 0, none⟩ = some (.int .i64 x141000_1) := (blk_cell BK140.out 0).trans rfl
                      have hcz38_1 : wc.cell? ⟨gb140, 1, none⟩ = some (.int .i64 x141001_1) := (blk_cell BK140.out 1).trans rfl
                      have hcz38_2 : wc.cell? ⟨gb140, 2, none⟩ = some (.int .i64 x141002_1) := (blk_cell BK140.out 2).trans rfl
                      have hcz38_3 : wc.cell? ⟨gb140, 3, none⟩ = some (.bool false) := (blk_cell BK140.out 3).trans rfl
                      have hfz38_0 := blk_frozen BK140.out 0
                      have hfz38_1 := blk_frozen BK140.out 1
                      have hfz38_2 := blk_frozen BK140.out 2
                      have hfz38_3 := blk_frozen BK140.out 3
                      go_wp2_with (first | ((with_reducible refine gate_callee (f := 20) rfl ?_); refine goesL_ (some 51) rfl rfl Try.func20 (by kernel_rfl) rfl #[.agg #[.int .i64 x141000_1, .int .i64 x141001_1, .int .i64 x141002_1, .bool false], .int .i64 (wrap64 (1 + (wrap64 (Int.tmod a0 9)))), .int .i64 (wrap64 (Int.tmod a1 20))] rfl (by (try simp only [List.map_toArray, List.map_cons, List.map_nil]); first | done | rfl | (simp only [List.length_drop, List.length_take]; rfl)) ?_; (with_reducible refine (gate_Lost.calls kj8 x141000_1 x141001_1 x141002_1 false (wrap64 (1 + (wrap64 (Int.tmod a0 9)))) (wrap64 (Int.tmod a1 20)) t143 t144 t145 t146 _ A21.out).mono ?_); rintro e w39 ⟨rfl, hb⟩; refine ⟨_, rfl, ?_⟩; have n0_ := Aside0.mk (blk_below (g := gb140) (o := .cells #[.int .i64 x141000_1, .int .i64 x141001_1, .int .i64 x141002_1, .bool false] 29 (0, 0)) (by (with_reducible repeat (first | refine blk_drewN ?_ _ | refine blk_drew ?_ | refine blk_alloc ?_ _)); exact BK140.out) hb); have n1_ := Aside0.mk (below_step (by repeat (first | (with_reducible first | exact HB.out | apply below_alloc | apply pw_below_drewN | apply below_drew1 | refine below_set ?_ GE140.out) | exact HB.out)) hb); clear BK140; clear HB; have BK140 := n0_; have HB := n1_; clear n0_ n1_; (try clear hb); (try clear hb2); (try clear hk); (try clear hi); have hcz40_0 : w39.cell? ⟨gb140, 0, none⟩ = some (.int .i64 x141000_1) := (blk_cell BK140.out 0).trans rfl; have hcz40_1 : w39.cell? ⟨gb140, 1, none⟩ = some (.int .i64 x141001_1) := (blk_cell BK140.out 1).trans rfl; have hcz40_2 : w39.cell? ⟨gb140, 2, none⟩ = some (.int .i64 x141002_1) := (blk_cell BK140.out 2).trans rfl; have hcz40_3 : w39.cell? ⟨gb140, 3, none⟩ = some (.bool false) := (blk_cell BK140.out 3).trans rfl; have hfz40_0 := blk_frozen BK140.out 0; have hfz40_1 := blk_frozen BK140.out 1; have hfz40_2 := blk_frozen BK140.out 2; have hfz40_3 := blk_frozen BK140.out 3))
                      go_ret
                      exact ⟨by first | rfl | (simp [errW_none, errW_some] <;> rfl) | (simp [*, errW_none, errW_some] <;> rfl), by repeat (first | (with_reducible first | exact HB.out | apply below_alloc | apply pw_below_drewN | apply below_drew1 | refine below_set ?_ GE140.out) | exact HB.out)⟩
            · replace c20 := Bool.eq_false_iff.mpr c20
              subst c20
              have H1 : ((gate_Denied.f x141000_1 x141001_1 x141002_1 false (wrap64 (1 + (wrap64 (Int.tmod a0 9))))).bind fun bt147 => (if bt147.2.1 > (wrap64 (1 + (wrap64 (Int.tmod a0 9)))) then (some false) else (if bt147.2.2.1 < 0 then (some false) else (if bt147.2.2.1 > (wrap64 (Int.tmod a1 20)) then (some false) else (if bt147.1 = 3 then (ogivelaw18_GateAges.l0 kj8 a1 l2 t139 (wrap64 (1 + (wrap64 (Int.tmod a0 9)))) (wrap64 (x10_1 + 1)) (wrap64 (x11_1 + 1)) bt147.1 bt147.2.1 bt147.2.2.1 bt147.2.2.2) else (some false)))))) = some r := by rw [if_neg (show ¬ (false = true) by decide)] at H; exact H
              clear H
              have H := H1
              clear H1
              replace H := Option.bind_eq_some_iff.mp H
              obtain ⟨⟨t147, t148, t149, t150⟩, A410, H⟩ := H
              replace H : (if t148 > (wrap64 (1 + (wrap64 (Int.tmod a0 9)))) then (some false) else (if t149 < 0 then (some false) else (if t149 > (wrap64 (Int.tmod a1 20)) then (some false) else (if t147 = 3 then (ogivelaw18_GateAges.l0 kj8 a1 l2 t139 (wrap64 (1 + (wrap64 (Int.tmod a0 9)))) (wrap64 (x10_1 + 1)) (wrap64 (x11_1 + 1)) t147 t148 t149 t150) else (some false))))) = some r := H
              have A41 := Aside0.mk A410
              clear A410
              by_cases c42 : t148 > (wrap64 (1 + (wrap64 (Int.tmod a0 9))))
              · rw [if_pos c42] at H
                have c42b0 : decide ((wrap64 (1 + (wrap64 (Int.tmod a0 9)))) < t148) = true := decide_eq_true c42
                clear c42
                obtain rfl := Option.some.inj H
                have hcz43_0 : wc.cell? ⟨gb140, 0, none⟩ = some (.int .i64 x141000_1) := (blk_cell BK140.out 0).trans rfl
                have hcz43_1 : wc.cell? ⟨gb140, 1, none⟩ = some (.int .i64 x141001_1) := (blk_cell BK140.out 1).trans rfl
                have hcz43_2 : wc.cell? ⟨gb140, 2, none⟩ = some (.int .i64 x141002_1) := (blk_cell BK140.out 2).trans rfl
                have hcz43_3 : wc.cell? ⟨gb140, 3, none⟩ = some (.bool false) := (blk_cell BK140.out 3).trans rfl
                have hfz43_0 := blk_frozen BK140.out 0
                have hfz43_1 := blk_frozen BK140.out 1
                have hfz43_2 := blk_frozen BK140.out 2
                have hfz43_3 := blk_frozen BK140.out 3
                go_wp2_with (first | ((with_reducible refine gate_callee (f := 21) rfl ?_); refine goesL_ (some 54) rfl rfl Try.func21 (by kernel_rfl) rfl #[.agg #[.int .i64 x141000_1, .int .i64 x141001_1, .int .i64 x141002_1, .bool false], .int .i64 (wrap64 (1 + (wrap64 (Int.tmod a0 9))))] rfl (by (try simp only [List.map_toArray, List.map_cons, List.map_nil]); first | done | rfl | (simp only [List.length_drop, List.length_take]; rfl)) ?_; (with_reducible refine (gate_Denied.calls x141000_1 x141001_1 x141002_1 false (wrap64 (1 + (wrap64 (Int.tmod a0 9)))) t147 t148 t149 t150 _ A41.out).mono ?_); rintro e w44 ⟨rfl, hb⟩; refine ⟨_, rfl, ?_⟩; have n0_ := Aside0.mk (blk_below (g := gb140) (o := .cells #[.int .i64 x141000_1, .int .i64 x141001_1, .int .i64 x141002_1, .bool false] 29 (0, 0)) (by (with_reducible repeat (first | refine blk_drewN ?_ _ | refine blk_drew ?_ | refine blk_alloc ?_ _)); exact BK140.out) hb); have n1_ := Aside0.mk (below_step (by repeat (first | (with_reducible first | exact HB.out | apply below_alloc | apply pw_below_drewN | apply below_drew1 | refine below_set ?_ GE140.out) | exact HB.out)) hb); clear BK140; clear HB; have BK140 := n0_; have HB := n1_; clear n0_ n1_; (try clear hb); (try clear hb2); (try clear hk); (try clear hi); have hcz45_0 : w44.cell? ⟨gb140, 0, none⟩ = some (.int .i64 x141000_1) := (blk_cell BK140.out 0).trans rfl; have hcz45_1 : w44.cell? ⟨gb140, 1, none⟩ = some (.int .i64 x141001_1) := (blk_cell BK140.out 1).trans rfl; have hcz45_2 : w44.cell? ⟨gb140, 2, none⟩ = some (.int .i64 x141002_1) := (blk_cell BK140.out 2).trans rfl; have hcz45_3 : w44.cell? ⟨gb140, 3, none⟩ = some (.bool false) := (blk_cell BK140.out 3).trans rfl; have hfz45_0 := blk_frozen BK140.out 0; have hfz45_1 := blk_frozen BK140.out 1; have hfz45_2 := blk_frozen BK140.out 2; have hfz45_3 := blk_frozen BK140.out 3))
                go_ret
                exact ⟨by first | rfl | (simp [errW_none, errW_some] <;> rfl) | (simp [*, errW_none, errW_some] <;> rfl), by repeat (first | (with_reducible first | exact HB.out | apply below_alloc | apply pw_below_drewN | apply below_drew1 | refine below_set ?_ GE140.out) | exact HB.out)⟩
              · rw [if_neg c42] at H
                have c42b0 : decide ((wrap64 (1 + (wrap64 (Int.tmod a0 9)))) < t148) = false := decide_eq_false c42
                clear c42
                by_cases c46 : t149 < 0
                · rw [if_pos c46] at H
                  have c46b0 : decide (t149 < 0) = true := decide_eq_true c46
                  clear c46
                  obtain rfl := Option.some.inj H
                  have hcz47_0 : wc.cell? ⟨gb140, 0, none⟩ = some (.int .i64 x141000_1) := (blk_cell BK140.out 0).trans rfl
                  have hcz47_1 : wc.cell? ⟨gb140, 1, none⟩ = some (.int .i64 x141001_1) := (blk_cell BK140.out 1).trans rfl
                  have hcz47_2 : wc.cell? ⟨gb140, 2, none⟩ = some (.int .i64 x141002_1) := (blk_cell BK140.out 2).trans rfl
                  have hcz47_3 : wc.cell? ⟨gb140, 3, none⟩ = some (.bool false) := (blk_cell BK140.out 3).trans rfl
                  have hfz47_0 := blk_frozen BK140.out 0
                  have hfz47_1 := blk_frozen BK140.out 1
                  have hfz47_2 := blk_frozen BK140.out 2
                  have hfz47_3 := blk_frozen BK140.out 3
                  go_wp2_with (first | ((with_reducible refine gate_callee (f := 21) rfl ?_); refine goesL_ (some 54) rfl rfl Try.func21 (by kernel_rfl) rfl #[.agg #[.int .i64 x141000_1, .int .i64 x141001_1, .int .i64 x141002_1, .bool false], .int .i64 (wrap64 (1 + (wrap64 (Int.tmod a0 9))))] rfl (by (try simp only [List.map_toArray, List.map_cons, List.map_nil]); first | done | rfl | (simp only [List.length_drop, List.length_take]; rfl)) ?_; (with_reducible refine (gate_Denied.calls x141000_1 x141001_1 x141002_1 false (wrap64 (1 + (wrap64 (Int.tmod a0 9)))) t147 t148 t149 t150 _ A41.out).mono ?_); rintro e w48 ⟨rfl, hb⟩; refine ⟨_, rfl, ?_⟩; have n0_ := Aside0.mk (blk_below (g := gb140) (o := .cells #[.int .i64 x141000_1, .int .i64 x141001_1, .int .i64 x141002_1, .bool false] 29 (0, 0)) (by (with_reducible repeat (first | refine blk_drewN ?_ _ | refine blk_drew ?_ | refine blk_alloc ?_ _)); exact BK140.out) hb); have n1_ := Aside0.mk (below_step (by repeat (first | (with_reducible first | exact HB.out | apply below_alloc | apply pw_below_drewN | apply below_drew1 | refine below_set ?_ GE140.out) | exact HB.out)) hb); clear BK140; clear HB; have BK140 := n0_; have HB := n1_; clear n0_ n1_; (try clear hb); (try clear hb2); (try clear hk); (try clear hi); have hcz49_0 : w48.cell? ⟨gb140, 0, none⟩ = some (.int .i64 x141000_1) := (blk_cell BK140.out 0).trans rfl; have hcz49_1 : w48.cell? ⟨gb140, 1, none⟩ = some (.int .i64 x141001_1) := (blk_cell BK140.out 1).trans rfl; have hcz49_2 : w48.cell? ⟨gb140, 2, none⟩ = some (.int .i64 x141002_1) := (blk_cell BK140.out 2).trans rfl; have hcz49_3 : w48.cell? ⟨gb140, 3, none⟩ = some (.bool false) := (blk_cell BK140.out 3).trans rfl; have hfz49_0 := blk_frozen BK140.out 0; have hfz49_1 := blk_frozen BK140.out 1; have hfz49_2 := blk_frozen BK140.out 2; have hfz49_3 := blk_frozen BK140.out 3))
                  go_ret
                  exact ⟨by first | rfl | (simp [errW_none, errW_some] <;> rfl) | (simp [*, errW_none, errW_some] <;> rfl), by repeat (first | (with_reducible first | exact HB.out | apply below_alloc | apply pw_below_drewN | apply below_drew1 | refine below_set ?_ GE140.out) | exact HB.out)⟩
                · rw [if_neg c46] at H
                  have c46b0 : decide (t149 < 0) = false := decide_eq_false c46
                  clear c46
                  by_cases c50 : t149 > (wrap64 (Int.tmod a1 20))
                  · rw [if_pos c50] at H
                    have c50b0 : decide ((wrap64 (Int.tmod a1 20)) < t149) = true := decide_eq_true c50
                    clear c50
                    obtain rfl := Option.some.inj H
                    have hcz51_0 : wc.cell? ⟨gb140, 0, none⟩ = some (.int .i64 x141000_1) := (blk_cell BK140.out 0).trans rfl
                    have hcz51_1 : wc.cell? ⟨gb140, 1, none⟩ = some (.int .i64 x141001_1) := (blk_cell BK140.out 1).trans rfl
                    have hcz51_2 : wc.cell? ⟨gb140, 2, none⟩ = some (.int .i64 x141002_1) := (blk_cell BK140.out 2).trans rfl
                    have hcz51_3 : wc.cell? ⟨gb140, 3, none⟩ = some (.bool false) := (blk_cell BK140.out 3).trans rfl
                    have hfz51_0 := blk_frozen BK140.out 0
                    have hfz51_1 := blk_frozen BK140.out 1
                    have hfz51_2 := blk_frozen BK140.out 2
                    have hfz51_3 := blk_frozen BK140.out 3
                    go_wp2_with (first | ((with_reducible refine gate_callee (f := 21) rfl ?_); refine goesL_ (some 54) rfl rfl Try.func21 (by kernel_rfl) rfl #[.agg #[.int .i64 x141000_1, .int .i64 x141001_1, .int .i64 x141002_1, .bool false], .int .i64 (wrap64 (1 + (wrap64 (Int.tmod a0 9))))] rfl (by (try simp only [List.map_toArray, List.map_cons, List.map_nil]); first | done | rfl | (simp only [List.length_drop, List.length_take]; rfl)) ?_; (with_reducible refine (gate_Denied.calls x141000_1 x141001_1 x141002_1 false (wrap64 (1 + (wrap64 (Int.tmod a0 9)))) t147 t148 t149 t150 _ A41.out).mono ?_); rintro e w52 ⟨rfl, hb⟩; refine ⟨_, rfl, ?_⟩; have n0_ := Aside0.mk (blk_below (g := gb140) (o := .cells #[.int .i64 x141000_1, .int .i64 x141001_1, .int .i64 x141002_1, .bool false] 29 (0, 0)) (by (with_reducible repeat (first | refine blk_drewN ?_ _ | refine blk_drew ?_ | refine blk_alloc ?_ _)); exact BK140.out) hb); have n1_ := Aside0.mk (below_step (by repeat (first | (with_reducible first | exact HB.out | apply below_alloc | apply pw_below_drewN | apply below_drew1 | refine below_set ?_ GE140.out) | exact HB.out)) hb); clear BK140; clear HB; have BK140 := n0_; have HB := n1_; clear n0_ n1_; (try clear hb); (try clear hb2); (try clear hk); (try clear hi); have hcz53_0 : w52.cell? ⟨gb140, 0, none⟩ = some (.int .i64 x141000_1) := (blk_cell BK140.out 0).trans rfl; have hcz53_1 : w52.cell? ⟨gb140, 1, none⟩ = some (.int .i64 x141001_1) := (blk_cell BK140.out 1).trans rfl; have hcz53_2 : w52.cell? ⟨gb140, 2, none⟩ = some (.int .i64 x141002_1) := (blk_cell BK140.out 2).trans rfl; have hcz53_3 : w52.cell? ⟨gb140, 3, none⟩ = some (.bool false) := (blk_cell BK140.out 3).trans rfl; have hfz53_0 := blk_frozen BK140.out 0; have hfz53_1 := blk_frozen BK140.out 1; have hfz53_2 := blk_frozen BK140.out 2; have hfz53_3 := blk_frozen BK140.out 3))
                    go_ret
                    exact ⟨by first | rfl | (simp [errW_none, errW_some] <;> rfl) | (simp [*, errW_none, errW_some] <;> rfl), by repeat (first | (with_reducible first | exact HB.out | apply below_alloc | apply pw_below_drewN | apply below_drew1 | refine below_set ?_ GE140.out) | exact HB.out)⟩
                  · rw [if_neg c50] at H
                    have c50b0 : decide ((wrap64 (Int.tmod a1 20)) < t149) = false := decide_eq_false c50
                    clear c50
                    by_cases c54 : t147 = 3
                    · rw [if_pos c54] at H
                      have c54b0 : (t147 == 3) = true := beq_iff_eq.mpr c54
                      have c54b1 : (t147 != 3) = false := bne_eq_false_iff_eq.mpr c54
                      clear c54
                      have H' := Aside0.mk H
                      clear H
                      have hcz55_0 : wc.cell? ⟨gb140, 0, none⟩ = some (.int .i64 x141000_1) := (blk_cell BK140.out 0).trans rfl
                      have hcz55_1 : wc.cell? ⟨gb140, 1, none⟩ = some (.int .i64 x141001_1) := (blk_cell BK140.out 1).trans rfl
                      have hcz55_2 : wc.cell? ⟨gb140, 2, none⟩ = some (.int .i64 x141002_1) := (blk_cell BK140.out 2).trans rfl
                      have hcz55_3 : wc.cell? ⟨gb140, 3, none⟩ = some (.bool false) := (blk_cell BK140.out 3).trans rfl
                      have hfz55_0 := blk_frozen BK140.out 0
                      have hfz55_1 := blk_frozen BK140.out 1
                      have hfz55_2 := blk_frozen BK140.out 2
                      have hfz55_3 := blk_frozen BK140.out 3
                      go_wp2_with (first | ((with_reducible refine gate_callee (f := 21) rfl ?_); refine goesL_ (some 54) rfl rfl Try.func21 (by kernel_rfl) rfl #[.agg #[.int .i64 x141000_1, .int .i64 x141001_1, .int .i64 x141002_1, .bool false], .int .i64 (wrap64 (1 + (wrap64 (Int.tmod a0 9))))] rfl (by (try simp only [List.map_toArray, List.map_cons, List.map_nil]); first | done | rfl | (simp only [List.length_drop, List.length_take]; rfl)) ?_; (with_reducible refine (gate_Denied.calls x141000_1 x141001_1 x141002_1 false (wrap64 (1 + (wrap64 (Int.tmod a0 9)))) t147 t148 t149 t150 _ A41.out).mono ?_); rintro e w56 ⟨rfl, hb⟩; refine ⟨_, rfl, ?_⟩; have n0_ := Aside0.mk (blk_below (g := gb140) (o := .cells #[.int .i64 x141000_1, .int .i64 x141001_1, .int .i64 x141002_1, .bool false] 29 (0, 0)) (by (with_reducible repeat (first | refine blk_drewN ?_ _ | refine blk_drew ?_ | refine blk_alloc ?_ _)); exact BK140.out) hb); have n1_ := Aside0.mk (below_step (by repeat (first | (with_reducible first | exact HB.out | apply below_alloc | apply pw_below_drewN | apply below_drew1 | refine below_set ?_ GE140.out) | exact HB.out)) hb); clear BK140; clear HB; have BK140 := n0_; have HB := n1_; clear n0_ n1_; (try clear hb); (try clear hb2); (try clear hk); (try clear hi); have hcz57_0 : w56.cell? ⟨gb140, 0, none⟩ = some (.int .i64 x141000_1) := (blk_cell BK140.out 0).trans rfl; have hcz57_1 : w56.cell? ⟨gb140, 1, none⟩ = some (.int .i64 x141001_1) := (blk_cell BK140.out 1).trans rfl; have hcz57_2 : w56.cell? ⟨gb140, 2, none⟩ = some (.int .i64 x141002_1) := (blk_cell BK140.out 2).trans rfl; have hcz57_3 : w56.cell? ⟨gb140, 3, none⟩ = some (.bool false) := (blk_cell BK140.out 3).trans rfl; have hfz57_0 := blk_frozen BK140.out 0; have hfz57_1 := blk_frozen BK140.out 1; have hfz57_2 := blk_frozen BK140.out 2; have hfz57_3 := blk_frozen BK140.out 3))
                      go_roundg kj8
                      case measure => have := HK1.out; have := HJ8.out; omega
                      case rel => exact ⟨(wrap64 (x10_1 + 1)), (wrap64 (x11_1 + 1)), (t147), (t148), (t149), (t150), (by first | rfl | (simp; done) | (simp [*]; done)), (by first | rfl | (simp; done) | (simp [*]; done)), H', ⟨by have := HK1.out; have := HJ8.out; omega⟩, ⟨by (with_reducible repeat (first | refine blk_drewN ?_ _ | refine blk_drew ?_ | refine blk_alloc ?_ _)); refine blk_put (cs := #[.int .i64 t147, .int .i64 t148, .int .i64 t149, .bool false]) ?_ 3 _ rfl; (with_reducible repeat (first | refine blk_drewN ?_ _ | refine blk_drew ?_ | refine blk_alloc ?_ _)); refine blk_put (cs := #[.int .i64 t147, .int .i64 t148, .int .i64 x141002_1, .bool false]) ?_ 2 _ rfl; (with_reducible repeat (first | refine blk_drewN ?_ _ | refine blk_drew ?_ | refine blk_alloc ?_ _)); refine blk_put (cs := #[.int .i64 t147, .int .i64 x141001_1, .int .i64 x141002_1, .bool false]) ?_ 1 _ rfl; (with_reducible repeat (first | refine blk_drewN ?_ _ | refine blk_drew ?_ | refine blk_alloc ?_ _)); refine blk_put (cs := #[.int .i64 x141000_1, .int .i64 x141001_1, .int .i64 x141002_1, .bool false]) ?_ 0 _ rfl; (with_reducible repeat (first | refine blk_drewN ?_ _ | refine blk_drew ?_ | refine blk_alloc ?_ _)); exact BK140.out⟩, ⟨by repeat (first | (with_reducible first | exact HB.out | apply below_alloc | apply pw_below_drewN | apply below_drew1 | refine below_set ?_ GE140.out) | exact HB.out)⟩⟩
                    · rw [if_neg c54] at H
                      have c54b0 : (t147 == 3) = false := beq_eq_false_iff_ne.mpr c54
                      have c54b1 : (t147 != 3) = true := bne_iff_ne.mpr c54
                      obtain rfl := Option.some.inj H
                      have hcz58_0 : wc.cell? ⟨gb140, 0, none⟩ = some (.int .i64 x141000_1) := (blk_cell BK140.out 0).trans rfl
                      have hcz58_1 : wc.cell? ⟨gb140, 1, none⟩ = some (.int .i64 x141001_1) := (blk_cell BK140.out 1).trans rfl
                      have hcz58_2 : wc.cell? ⟨gb140, 2, none⟩ = some (.int .i64 x141002_1) := (blk_cell BK140.out 2).trans rfl
                      have hcz58_3 : wc.cell? ⟨gb140, 3, none⟩ = some (.bool false) := (blk_cell BK140.out 3).trans rfl
                      have hfz58_0 := blk_frozen BK140.out 0
                      have hfz58_1 := blk_frozen BK140.out 1
                      have hfz58_2 := blk_frozen BK140.out 2
                      have hfz58_3 := blk_frozen BK140.out 3
                      go_wp2_with (first | ((with_reducible refine gate_callee (f := 21) rfl ?_); refine goesL_ (some 54) rfl rfl Try.func21 (by kernel_rfl) rfl #[.agg #[.int .i64 x141000_1, .int .i64 x141001_1, .int .i64 x141002_1, .bool false], .int .i64 (wrap64 (1 + (wrap64 (Int.tmod a0 9))))] rfl (by (try simp only [List.map_toArray, List.map_cons, List.map_nil]); first | done | rfl | (simp only [List.length_drop, List.length_take]; rfl)) ?_; (with_reducible refine (gate_Denied.calls x141000_1 x141001_1 x141002_1 false (wrap64 (1 + (wrap64 (Int.tmod a0 9)))) t147 t148 t149 t150 _ A41.out).mono ?_); rintro e w59 ⟨rfl, hb⟩; refine ⟨_, rfl, ?_⟩; have n0_ := Aside0.mk (blk_below (g := gb140) (o := .cells #[.int .i64 x141000_1, .int .i64 x141001_1, .int .i64 x141002_1, .bool false] 29 (0, 0)) (by (with_reducible repeat (first | refine blk_drewN ?_ _ | refine blk_drew ?_ | refine blk_alloc ?_ _)); exact BK140.out) hb); have n1_ := Aside0.mk (below_step (by repeat (first | (with_reducible first | exact HB.out | apply below_alloc | apply pw_below_drewN | apply below_drew1 | refine below_set ?_ GE140.out) | exact HB.out)) hb); clear BK140; clear HB; have BK140 := n0_; have HB := n1_; clear n0_ n1_; (try clear hb); (try clear hb2); (try clear hk); (try clear hi); have hcz60_0 : w59.cell? ⟨gb140, 0, none⟩ = some (.int .i64 x141000_1) := (blk_cell BK140.out 0).trans rfl; have hcz60_1 : w59.cell? ⟨gb140, 1, none⟩ = some (.int .i64 x141001_1) := (blk_cell BK140.out 1).trans rfl; have hcz60_2 : w59.cell? ⟨gb140, 2, none⟩ = some (.int .i64 x141002_1) := (blk_cell BK140.out 2).trans rfl; have hcz60_3 : w59.cell? ⟨gb140, 3, none⟩ = some (.bool false) := (blk_cell BK140.out 3).trans rfl; have hfz60_0 := blk_frozen BK140.out 0; have hfz60_1 := blk_frozen BK140.out 1; have hfz60_2 := blk_frozen BK140.out 2; have hfz60_3 := blk_frozen BK140.out 3))
                      go_ret
                      exact ⟨by first | rfl | (simp [errW_none, errW_some] <;> rfl) | (simp [*, errW_none, errW_some] <;> rfl), by repeat (first | (with_reducible first | exact HB.out | apply below_alloc | apply pw_below_drewN | apply below_drew1 | refine below_set ?_ GE140.out) | exact HB.out)⟩
      · rw [if_neg c8] at H
        have c8b0 : decide (x11_1 < (wrap64 ((wrap64 (1 + (wrap64 (Int.tmod a0 9)))) * (wrap64 ((wrap64 (Int.tmod a1 20)) + 2))))) = false := decide_eq_false c8
        clear c8
        by_cases c61 : t139 = true
        · subst c61
          have H1 : ((gate_Aged.f x141000_1 x141001_1 x141002_1 x141003_1 (wrap64 (1 + (wrap64 (Int.tmod a0 9))))).bind fun t141 => (if t141 = true then (if x141002_1 = 0 then (some (decide (x10_1 > 0))) else (some false)) else (some false))) = some r := by rw [if_pos rfl] at H; exact H
          clear H
          have H := H1
          clear H1
          replace H := Option.bind_eq_some_iff.mp H
          obtain ⟨t141, A620, H⟩ := H
          replace H : (if t141 = true then (if x141002_1 = 0 then (some (decide (x10_1 > 0))) else (some false)) else (some false)) = some r := H
          have A62 := Aside0.mk A620
          clear A620
          by_cases c63 : t141 = true
          · subst c63
            have H1 : (if x141002_1 = 0 then (some (decide (x10_1 > 0))) else (some false)) = some r := by rw [if_pos rfl] at H; exact H
            clear H
            have H := H1
            clear H1
            by_cases c64 : x141002_1 = 0
            · rw [if_pos c64] at H
              have c64b0 : (x141002_1 == 0) = true := beq_iff_eq.mpr c64
              have c64b1 : (x141002_1 != 0) = false := bne_eq_false_iff_eq.mpr c64
              clear c64
              obtain rfl := Option.some.inj H
              have hcz65_0 : wr.cell? ⟨gb140, 0, none⟩ = some (.int .i64 x141000_1) := (blk_cell BK140.out 0).trans rfl
              have hcz65_1 : wr.cell? ⟨gb140, 1, none⟩ = some (.int .i64 x141001_1) := (blk_cell BK140.out 1).trans rfl
              have hcz65_2 : wr.cell? ⟨gb140, 2, none⟩ = some (.int .i64 x141002_1) := (blk_cell BK140.out 2).trans rfl
              have hcz65_3 : wr.cell? ⟨gb140, 3, none⟩ = some (.bool x141003_1) := (blk_cell BK140.out 3).trans rfl
              have hfz65_0 := blk_frozen BK140.out 0
              have hfz65_1 := blk_frozen BK140.out 1
              have hfz65_2 := blk_frozen BK140.out 2
              have hfz65_3 := blk_frozen BK140.out 3
              go_wp2_with (first | (go_at_call 11; (with_reducible refine (gate_Aged.calls x141000_1 x141001_1 x141002_1 x141003_1 (wrap64 (1 + (wrap64 (Int.tmod a0 9)))) true _ A62.out).mono ?_); rintro e w66 ⟨rfl, hb⟩; have n0_ := Aside0.mk (blk_below (g := gb140) (o := .cells #[.int .i64 x141000_1, .int .i64 x141001_1, .int .i64 x141002_1, .bool x141003_1] 29 (0, 0)) (by (with_reducible repeat (first | refine blk_drewN ?_ _ | refine blk_drew ?_ | refine blk_alloc ?_ _)); exact BK140.out) hb); have n1_ := Aside0.mk (below_step (by repeat (first | (with_reducible first | exact HB.out | apply below_alloc | apply pw_below_drewN | apply below_drew1 | refine below_set ?_ GE140.out) | exact HB.out)) hb); clear BK140; clear HB; have BK140 := n0_; have HB := n1_; clear n0_ n1_; (try clear hb); (try clear hb2); (try clear hk); (try clear hi); have hcz67_0 : w66.cell? ⟨gb140, 0, none⟩ = some (.int .i64 x141000_1) := (blk_cell BK140.out 0).trans rfl; have hcz67_1 : w66.cell? ⟨gb140, 1, none⟩ = some (.int .i64 x141001_1) := (blk_cell BK140.out 1).trans rfl; have hcz67_2 : w66.cell? ⟨gb140, 2, none⟩ = some (.int .i64 x141002_1) := (blk_cell BK140.out 2).trans rfl; have hcz67_3 : w66.cell? ⟨gb140, 3, none⟩ = some (.bool x141003_1) := (blk_cell BK140.out 3).trans rfl; have hfz67_0 := blk_frozen BK140.out 0; have hfz67_1 := blk_frozen BK140.out 1; have hfz67_2 := blk_frozen BK140.out 2; have hfz67_3 := blk_frozen BK140.out 3))
              go_ret
              exact ⟨by first | rfl | (simp [errW_none, errW_some] <;> rfl) | (simp [*, errW_none, errW_some] <;> rfl), by repeat (first | (with_reducible first | exact HB.out | apply below_alloc | apply pw_below_drewN | apply below_drew1 | refine below_set ?_ GE140.out) | exact HB.out)⟩
            · rw [if_neg c64] at H
              have c64b0 : (x141002_1 == 0) = false := beq_eq_false_iff_ne.mpr c64
              have c64b1 : (x141002_1 != 0) = true := bne_iff_ne.mpr c64
              obtain rfl := Option.some.inj H
              have hcz68_0 : wr.cell? ⟨gb140, 0, none⟩ = some (.int .i64 x141000_1) := (blk_cell BK140.out 0).trans rfl
              have hcz68_1 : wr.cell? ⟨gb140, 1, none⟩ = some (.int .i64 x141001_1) := (blk_cell BK140.out 1).trans rfl
              have hcz68_2 : wr.cell? ⟨gb140, 2, none⟩ = some (.int .i64 x141002_1) := (blk_cell BK140.out 2).trans rfl
              have hcz68_3 : wr.cell? ⟨gb140, 3, none⟩ = some (.bool x141003_1) := (blk_cell BK140.out 3).trans rfl
              have hfz68_0 := blk_frozen BK140.out 0
              have hfz68_1 := blk_frozen BK140.out 1
              have hfz68_2 := blk_frozen BK140.out 2
              have hfz68_3 := blk_frozen BK140.out 3
              go_wp2_with (first | (go_at_call 11; (with_reducible refine (gate_Aged.calls x141000_1 x141001_1 x141002_1 x141003_1 (wrap64 (1 + (wrap64 (Int.tmod a0 9)))) true _ A62.out).mono ?_); rintro e w69 ⟨rfl, hb⟩; have n0_ := Aside0.mk (blk_below (g := gb140) (o := .cells #[.int .i64 x141000_1, .int .i64 x141001_1, .int .i64 x141002_1, .bool x141003_1] 29 (0, 0)) (by (with_reducible repeat (first | refine blk_drewN ?_ _ | refine blk_drew ?_ | refine blk_alloc ?_ _)); exact BK140.out) hb); have n1_ := Aside0.mk (below_step (by repeat (first | (with_reducible first | exact HB.out | apply below_alloc | apply pw_below_drewN | apply below_drew1 | refine below_set ?_ GE140.out) | exact HB.out)) hb); clear BK140; clear HB; have BK140 := n0_; have HB := n1_; clear n0_ n1_; (try clear hb); (try clear hb2); (try clear hk); (try clear hi); have hcz70_0 : w69.cell? ⟨gb140, 0, none⟩ = some (.int .i64 x141000_1) := (blk_cell BK140.out 0).trans rfl; have hcz70_1 : w69.cell? ⟨gb140, 1, none⟩ = some (.int .i64 x141001_1) := (blk_cell BK140.out 1).trans rfl; have hcz70_2 : w69.cell? ⟨gb140, 2, none⟩ = some (.int .i64 x141002_1) := (blk_cell BK140.out 2).trans rfl; have hcz70_3 : w69.cell? ⟨gb140, 3, none⟩ = some (.bool x141003_1) := (blk_cell BK140.out 3).trans rfl; have hfz70_0 := blk_frozen BK140.out 0; have hfz70_1 := blk_frozen BK140.out 1; have hfz70_2 := blk_frozen BK140.out 2; have hfz70_3 := blk_frozen BK140.out 3))
              go_ret
              exact ⟨by first | rfl | (simp [errW_none, errW_some] <;> rfl) | (simp [*, errW_none, errW_some] <;> rfl), by repeat (first | (with_reducible first | exact HB.out | apply below_alloc | apply pw_below_drewN | apply below_drew1 | refine below_set ?_ GE140.out) | exact HB.out)⟩
          · replace c63 := Bool.eq_false_iff.mpr c63
            subst c63
            have H1 : (some false) = some r := by rw [if_neg (show ¬ (false = true) by decide)] at H; exact H
            clear H
            have H := H1
            clear H1
            obtain rfl := Option.some.inj H
            have hcz71_0 : wr.cell? ⟨gb140, 0, none⟩ = some (.int .i64 x141000_1) := (blk_cell BK140.out 0).trans rfl
            have hcz71_1 : wr.cell? ⟨gb140, 1, none⟩ = some (.int .i64 x141001_1) := (blk_cell BK140.out 1).trans rfl
            have hcz71_2 : wr.cell? ⟨gb140, 2, none⟩ = some (.int .i64 x141002_1) := (blk_cell BK140.out 2).trans rfl
            have hcz71_3 : wr.cell? ⟨gb140, 3, none⟩ = some (.bool x141003_1) := (blk_cell BK140.out 3).trans rfl
            have hfz71_0 := blk_frozen BK140.out 0
            have hfz71_1 := blk_frozen BK140.out 1
            have hfz71_2 := blk_frozen BK140.out 2
            have hfz71_3 := blk_frozen BK140.out 3
            go_wp2_with (first | (go_at_call 11; (with_reducible refine (gate_Aged.calls x141000_1 x141001_1 x141002_1 x141003_1 (wrap64 (1 + (wrap64 (Int.tmod a0 9)))) false _ A62.out).mono ?_); rintro e w72 ⟨rfl, hb⟩; have n0_ := Aside0.mk (blk_below (g := gb140) (o := .cells #[.int .i64 x141000_1, .int .i64 x141001_1, .int .i64 x141002_1, .bool x141003_1] 29 (0, 0)) (by (with_reducible repeat (first | refine blk_drewN ?_ _ | refine blk_drew ?_ | refine blk_alloc ?_ _)); exact BK140.out) hb); have n1_ := Aside0.mk (below_step (by repeat (first | (with_reducible first | exact HB.out | apply below_alloc | apply pw_below_drewN | apply below_drew1 | refine below_set ?_ GE140.out) | exact HB.out)) hb); clear BK140; clear HB; have BK140 := n0_; have HB := n1_; clear n0_ n1_; (try clear hb); (try clear hb2); (try clear hk); (try clear hi)))
            go_ret
            exact ⟨by first | rfl | (simp [errW_none, errW_some] <;> rfl) | (simp [*, errW_none, errW_some] <;> rfl), by repeat (first | (with_reducible first | exact HB.out | apply below_alloc | apply pw_below_drewN | apply below_drew1 | refine below_set ?_ GE140.out) | exact HB.out)⟩
        · replace c61 := Bool.eq_false_iff.mpr c61
          subst c61
          have H1 : (some false) = some r := by rw [if_neg (show ¬ (false = true) by decide)] at H; exact H
          clear H
          have H := H1
          clear H1
          obtain rfl := Option.some.inj H
          go_wp2
          go_ret
          exact ⟨by first | rfl | (simp [errW_none, errW_some] <;> rfl) | (simp [*, errW_none, errW_some] <;> rfl), by repeat (first | (with_reducible first | exact HB.out | apply below_alloc | apply pw_below_drewN | apply below_drew1 | refine below_set ?_ GE140.out) | exact HB.out)⟩

end Go.Proofs.Ytjomfmhgiecafaa.P
