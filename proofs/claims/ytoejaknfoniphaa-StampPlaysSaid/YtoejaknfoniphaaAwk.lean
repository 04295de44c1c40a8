/- The document's example for layer 9; StampNobody, StampRaised, walked by their facts. -/
import Derived.Test.YtoejaknfoniphaaAct2
namespace Go.Proofs.Ytoejaknfoniphaa
open Go.RowKit Go.Maps Go.Proofs.YtoejaknfoniphaaW.PrintWords Go.Proofs.YtoejaknfoniphaaW.PrintLast Go.Proofs.YtoejaknfoniphaaW.PrintMore
attribute [local go_sem] max2_int min2_int max_two min_two max_three min_three max_four min_four
set_option linter.unusedVariables false

/-- A clock that the call has made: its state, and that all else stands. -/
structure St (w0 w : World) (p b n : Nat) (next : Int) (act : List Int) : Prop where
  clk : Clk w p b n next act
  hp : w0.heap.size ≤ p
  hb : w0.heap.size ≤ b
  below : Below w0.heap.size w0 w
theorem St.moved {w0 w w' : World} {p b n n' : Nat} {next next' : Int} {act act' : List Int} (h : St w0 w p b n next act) (hc : Clk w' p b n' next' act') (hm : Moved w w' p b) : St w0 w' p b n' next' act' :=
  ⟨hc, h.hp, h.hb, hm.below h.below h.below.size h.hp h.hb⟩
theorem St.go {w0 w w' : World} {p b n : Nat} {next : Int} {act : List Int} (h : St w0 w p b n next act) (hb : Below w.heap.size w w') : St w0 w' p b n next act :=
  ⟨h.clk.below hb, h.hp, h.hb, h.below.trans (hb.mono h.below.size)⟩
theorem St.made {w0 w w' : World} {next : Int} (h0 : Below w0.heap.size w0 w) (h : Clk w' (w.heap.size + 1) w.heap.size 0 next []) (hb : Below w.heap.size w w') : St w0 w' (w.heap.size + 1) w.heap.size 0 next [] :=
  ⟨h, by have := h0.size; omega, h0.size, h0.trans (hb.mono h0.size)⟩

set_option maxHeartbeats 2000000 in
theorem awake_calls (w : World) : Calls Try.prog 9 #[] w fun e w' => e = .returned (.bool true) ∧ Below w.heap.size w w' := by
  go_enter Try.func9, Try.ntmps9
  go_wp2_with fail
  refine (new_some 5 (by omega) (by omega) _).mono ?_
  rintro e w1 ⟨rfl, hc, hb⟩
  have HS := Aside0.mk (St.made (Below.refl _ w) hc hb)
  obtain ⟨p, hp⟩ : ∃ p, w.heap.size + 1 = p := ⟨_, rfl⟩
  obtain ⟨b, hbb⟩ : ∃ b, w.heap.size = b := ⟨_, rfl⟩
  rw [hp] at HS ⊢
  clear hc hb
  go_wp2_with fail
  refine (issue_calls _ HS.out.clk (by omega) (by omega) (fun t ht => by cases ht) (by omega)).mono ?_
  rintro e w2 ⟨rfl, hc, hm⟩
  have HS2 := Aside0.mk (HS.out.moved hc hm)
  clear hc hm HS
  go_wp2_with fail
  refine (issue_calls _ HS2.out.clk (by omega) (by omega) (fun t ht => by simp at ht; omega) (by omega)).mono ?_
  rintro e w3 ⟨rfl, hc, hm⟩
  have HS3 := Aside0.mk (HS2.out.moved hc hm)
  clear hc hm HS2
  go_wp2_with fail
  refine (done_calls 5 (by decide) _ HS3.out.clk).mono ?_
  rintro e w4 ⟨rfl, hc, hm⟩
  have hc' : Clk w4 p _ 2 7 [6] := hc
  have HS4 := Aside0.mk (HS3.out.moved hc' hm)
  have hin : decide ((5 : Int) ∈ ([] ++ [5] ++ [5 + 1] : List Int)) = true := by decide
  rw [hin]
  have hr : Rising [6] := by unfold Rising; simp
  clear hc hm hc' HS3 hin
  go_wp2_with fail
  refine (min_tells _ HS4.out.clk (by omega) hr).mono ?_
  rintro e w5 ⟨rfl, hb5⟩
  have HS5 := Aside0.mk (HS4.out.go hb5)
  have hl : least 7 [6] = 6 := rfl
  rw [hl]
  clear hb5 HS4 hl
  go_wp2_with fail
  refine (active_tells _ HS5.out.clk (by omega) hr).mono ?_
  rintro e w6 ⟨A, c, rfl, _, _, hb6⟩
  have HS6 := Aside0.mk (HS5.out.go hb6)
  clear hb6 HS5
  go_wp2_with fail
  refine (next_calls _ HS6.out.clk).mono ?_
  rintro e w7 ⟨rfl, rfl⟩
  go_wp2
  go_ret
  exact ⟨rfl, HS6.out.below⟩

set_option maxHeartbeats 2000000 in
theorem nobody_calls (x : Int) (w : World) : Calls Try.prog 8 #[.int .i64 x] w fun e w' => e = .returned (.bool true) ∧ Below w.heap.size w w' := by
  go_enter Try.func8, Try.ntmps8
  go_wp2_with fail
  refine (awake_calls _).mono ?_
  rintro e w1 ⟨rfl, hb1⟩
  have HB := Aside0.mk hb1
  clear hb1
  go_wp2_with fail
  refine (issue_nil _).mono ?_
  rintro e w2 ⟨rfl, rfl⟩
  go_wp2_with fail
  refine (raise_nil x _).mono ?_
  rintro e w2 ⟨rfl, rfl⟩
  by_cases h : 1 ≤ x ∧ x ≤ 1099511627777
  · have d1 : decide (x < 1) = false := decide_eq_false (by omega)
    have d2 : decide (x > 1099511627777) = false := decide_eq_false (by omega)
    have hx := h.1
    have hx2 := h.2
    clear h
    go_wp2_with fail
    refine (new_some x hx hx2 _).mono ?_
    rintro e w2 ⟨rfl, _, hb2⟩
    have HB2 := Aside0.mk (HB.out.trans (hb2.mono HB.out.size))
    clear hb2 HB
    go_wp2_with fail
    refine (done_nil x _).mono ?_
    rintro e w3 ⟨rfl, rfl⟩
    go_wp2_with fail
    refine (active_nil _).mono ?_
    rintro e w3 ⟨rfl, rfl⟩
    go_wp2_with fail
    refine (min_nil _).mono ?_
    rintro e w3 ⟨rfl, rfl⟩
    go_wp2_with fail
    refine (next_nil _).mono ?_
    rintro e w3 ⟨rfl, rfl⟩
    go_wp2
    go_ret
    exact ⟨rfl, HB2.out⟩
  · go_wp2_with fail
    refine (new_none x h _).mono ?_
    rintro e w2 ⟨rfl, rfl⟩
    go_wp2_with fail
    refine (done_nil x _).mono ?_
    rintro e w3 ⟨rfl, rfl⟩
    go_wp2_with fail
    refine (active_nil _).mono ?_
    rintro e w3 ⟨rfl, rfl⟩
    go_wp2_with fail
    refine (min_nil _).mono ?_
    rintro e w3 ⟨rfl, rfl⟩
    go_wp2_with fail
    refine (next_nil _).mono ?_
    rintro e w3 ⟨rfl, rfl⟩
    by_cases h1 : x < 1
    · have d1 : decide (x < 1) = true := decide_eq_true h1
      go_wp2
      go_ret
      exact ⟨rfl, HB.out⟩
    · have d1 : decide (x < 1) = false := decide_eq_false h1
      have d2 : decide (x > 1099511627777) = true := decide_eq_true (by omega)
      clear h
      go_wp2
      go_ret
      exact ⟨rfl, HB.out⟩
end Go.Proofs.Ytoejaknfoniphaa
