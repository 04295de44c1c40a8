/- StampRaised, walked by its facts. -/
import Derived.Test.YtoejaknfoniphaaAwk
namespace Go.Proofs.Ytoejaknfoniphaa
open Go.RowKit Go.Maps Go.Proofs.YtoejaknfoniphaaW.PrintWords Go.Proofs.YtoejaknfoniphaaW.PrintLast Go.Proofs.YtoejaknfoniphaaW.PrintMore
attribute [local go_sem] max2_int min2_int max_two min_two max_three min_three max_four min_four
set_option linter.unusedVariables false

theorem u16_bd {a : Int} (h : (Lit.int .u16 a).wf = true) : 0 ≤ a ∧ a ≤ 65535 := by
  have h1 : IntKind.u16.min = 0 := by decide
  have h2 : IntKind.u16.max = 65535 := by decide
  simp [Lit.wf, h1, h2] at h
  omega

set_option maxHeartbeats 2000000 in
theorem raised_calls (a0 a1 : Int) (w0 : (Lit.int .u16 a0).wf = true) (w1 : (Lit.int .u16 a1).wf = true) (w : World) : Calls Try.prog 7 #[.int .u16 a0, .int .u16 a1] w fun e w' => e = .returned (.bool true) ∧ Below w.heap.size w w' := by
  obtain ⟨b0, b1⟩ := u16_bd w0
  obtain ⟨b2, b3⟩ := u16_bd w1
  have e0 : wrap64 a0 = a0 := by unfold wrap64; omega
  have e1 : wrap64 a1 = a1 := by unfold wrap64; omega
  have e2 : wrap64 (1 + a0) = 1 + a0 := by unfold wrap64; omega
  have e3 : wrap64 (1 + a0 + 1) = 1 + a0 + 1 := by unfold wrap64; omega
  clear w0 w1
  go_enter Try.func7, Try.ntmps7
  go_wp2_with fail
  refine (awake_calls _).mono ?_
  rintro e w1 ⟨rfl, hb1⟩
  have HB := Aside0.mk hb1
  clear hb1
  go_wp2_with fail
  refine (new_some (1 + a0) (by omega) (by omega) _).mono ?_
  rintro e w2 ⟨rfl, hc, hb⟩
  have HS := Aside0.mk (St.made HB.out hc hb)
  obtain ⟨p, hp⟩ : ∃ p, w1.heap.size + 1 = p := ⟨_, rfl⟩
  rw [hp] at HS ⊢
  clear hc hb HB
  go_wp2_with fail
  refine (issue_calls _ HS.out.clk (by omega) (by omega) (fun t ht => by cases ht) (by omega)).mono ?_
  rintro e w3 ⟨rfl, hc, hm⟩
  have HS2 := Aside0.mk (HS.out.moved hc hm)
  clear hc hm HS
  go_wp2_with fail
  refine (raise_calls a1 _ HS2.out.clk).mono ?_
  rintro e w4 ⟨rfl, hc, hg⟩
  obtain ⟨m, hmm⟩ : ∃ m, raised (1 + a0 + 1) a1 = m := ⟨_, rfl⟩
  have hmx : (if 1 + a0 + 1 < a1 then a1 else 1 + a0 + 1) = m := by
    rw [← hmm]
    unfold raised
    by_cases h : 1 + a0 + 1 < a1
    · rw [if_pos h, if_pos ⟨h, by omega⟩]
    · rw [if_neg h, if_neg (fun h2 => h h2.1)]
  rw [hmm] at hc
  have hmb : 1 + a0 < m ∧ m ≤ 1000000 := by rw [← hmx]; split <;> omega
  have HS3 := Aside0.mk (HS2.out.moved hc (Moved.of_p hg))
  clear hc hg HS2 hmm
  go_wp2_with fail
  refine (issue_calls _ HS3.out.clk (by omega) (by omega) (fun t ht => by simp at ht; omega) (by omega)).mono ?_
  rintro e w5 ⟨rfl, hc, hm⟩
  have HS4 := Aside0.mk (HS3.out.moved hc hm)
  have hr : Rising ([] ++ [1 + a0] ++ [m]) := by unfold Rising; simp; omega
  clear hc hm HS3
  go_wp2_with fail
  refine (min_tells _ HS4.out.clk (by omega) hr).mono ?_
  rintro e w6 ⟨rfl, hb6⟩
  have HS5 := Aside0.mk (HS4.out.go hb6)
  rw [show least (m + 1) ([] ++ [1 + a0] ++ [m]) = 1 + a0 from rfl]
  clear hb6 HS4 hr
  go_wp2_with fail
  refine (done_calls (1 + a0) (WalkArith.wf_i64 (by omega)) _ HS5.out.clk).mono ?_
  rintro e w7 ⟨rfl, hc, hm⟩
  rw [show decide ((1 + a0) ∈ ([] ++ [1 + a0] ++ [m] : List Int)) = true by simp]
  have hf : ([] ++ [1 + a0] ++ [m] : List Int).filter (fun t => t ≠ 1 + a0) = [m] := by
    have : ¬ m = 1 + a0 := by omega
    simp [this]
  rw [hf] at hc
  have HS6 := Aside0.mk (HS5.out.moved hc hm)
  clear hc hm HS5 hf
  go_wp2_with fail
  refine (min_tells _ HS6.out.clk (by omega) (by unfold Rising; simp)).mono ?_
  rintro e w8 ⟨rfl, hb8⟩
  have HS7 := Aside0.mk (HS6.out.go hb8)
  rw [show least (m + 1) [m] = m from rfl]
  clear hb8 HS6
  go_wp2
  go_ret
  exact ⟨rfl, HS7.out.below⟩
end Go.Proofs.Ytoejaknfoniphaa
