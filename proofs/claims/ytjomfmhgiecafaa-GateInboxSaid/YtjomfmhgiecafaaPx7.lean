-- Written for this claim by a program of this seat's (wip/tools), by way of the kit's printing program; not one of its printed files. Lean checks it.
import Derived.Test.YtjomfmhgiecafaaPx0
import Derived.Test.YtjomfmhgiecafaaPx1
import Derived.Test.YtjomfmhgiecafaaPx3
namespace Go.Proofs.Ytjomfmhgiecafaa.P
open Go.RowKit Go.Proofs.YtjomfmhgiecafaaW.PrintWords Go.Proofs.YtjomfmhgiecafaaW.PrintLast Go.Proofs.YtjomfmhgiecafaaW.PrintMore
attribute [local go_sem] max2_int min2_int max_two min_two max_three min_three max_four min_four   -- for this text's walks alone
set_option linter.unusedVariables false
set_option linter.unusedSimpArgs false

/-! ### ogivelaw18_awake: function 8 -/
def ogivelaw18_awake.f : Option Bool := some true
theorem awake_bo1 : gate_Backoff.f 5 3 20 = some 7 := by decide +kernel
theorem awake_bo2 : gate_Backoff.f 12 9 20 = some 20 := by decide +kernel
theorem awake_el1 : gate_Elder.f 4 [⟨2, 5, 0, false⟩, ⟨1, 5, 0, false⟩] 5 = some 1 := by decide +kernel

theorem awake_rows (W : World) : Kd.C k29 (W.alloc (.cells #[.int .i64 2, .int .i64 5, .int .i64 0, .bool false, .int .i64 1, .int .i64 5, .int .i64 0, .bool false] 29)) (some ⟨W.heap.size, 0, none⟩) 2 [(⟨2, 5, 0, false⟩ : S29), ⟨1, 5, 0, false⟩] := by
  have h := (OwnRow.lit (R := k29.K (W.alloc (.cells #[.int .i64 2, .int .i64 5, .int .i64 0, .bool false, .int .i64 1, .int .i64 5, .int .i64 0, .bool false] 29))) (e := 29) (size := 4) W 0 (ps := [(⟨2, 5, 0, false⟩ : S29), ⟨1, 5, 0, false⟩]) (Reps.c4 (k29_mk _ ⟨2, 5, 0, false⟩) (Reps.c4 (k29_mk _ ⟨1, 5, 0, false⟩) (Reps.none _ _))) (Nat.zero_le _) (by simp)).reads
  obtain ⟨A, c, e, _, hr⟩ := h
  cases e
  exact hr

set_option maxHeartbeats 1000000 in
theorem ogivelaw18_awake.calls (r : Bool) (w : World) (h : ogivelaw18_awake.f = some r) : Calls Try.prog 8 #[] w fun e w' => e = .returned (.bool r) ∧ Below w.heap.size w w' := by
  obtain rfl : r = true := (Option.some.inj h).symm
  clear h
  go_enter Try.func8, Try.ntmps8
  go_wp2_with fail
  refine (box_new 1 _).mono ?_
  rintro e w1 ⟨rfl, B1, b1, z1⟩
  have hroom : roomOf 1 = 1 := rfl
  rw [hroom] at B1
  clear hroom
  go_wp2_with fail
  refine (box_put 7 _ B1).mono ?_
  rintro e w2 ⟨rfl, B2, g2⟩
  go_wp2_with fail
  refine (box_put 8 _ B2).mono ?_
  rintro e w3 ⟨rfl, B3, g3⟩
  go_wp2_with fail
  refine (box_take_some _ B3).mono ?_
  rintro e w4 ⟨rfl, B4, g4⟩
  go_wp2_with fail
  refine (box_take_none _ B4).mono ?_
  rintro e w5 ⟨rfl, B5, g5⟩
  go_wp2_with fail
  refine (gate_Backoff.calls 5 _ _ _ _ awake_bo1).mono ?_
  rintro e w6 ⟨rfl, b6⟩
  go_wp2_with fail
  refine (gate_Backoff.calls 12 _ _ _ _ awake_bo2).mono ?_
  rintro e w7 ⟨rfl, b7⟩
  go_wp2_with fail
  refine (gate_Elder.calls 4 _ 2 [⟨2, 5, 0, false⟩, ⟨1, 5, 0, false⟩] _ _ _ (awake_rows w7) (Nat.le_refl _) awake_el1).mono ?_
  rintro e w8 ⟨rfl, b8⟩
  go_wp2
  go_ret
  refine ⟨rfl, ?_⟩
  have hc : ∀ k, some w.heap.size = some k → w.heap.size ≤ k := fun k e => by cases e; exact Nat.le_refl _
  have c2 := b1.grown g2 b1.size hc
  have c3 := c2.grown g3 c2.size hc
  have c4 := c3.grown g4 c3.size hc
  have c5 := c4.grown g5 c4.size hc
  have c6 := c5.trans (b6.mono c5.size)
  have c7 := c6.trans (b7.mono c6.size)
  exact (c7.alloc c7.size _).trans (b8.mono (by have := c7.size; simp; omega))


end Go.Proofs.Ytjomfmhgiecafaa.P
