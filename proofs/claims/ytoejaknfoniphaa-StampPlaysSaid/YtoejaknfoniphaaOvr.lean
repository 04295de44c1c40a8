/- StampOver, walked by its facts. -/
import Derived.Test.YtoejaknfoniphaaAwk
namespace Go.Proofs.Ytoejaknfoniphaa
open Go.RowKit Go.Maps Go.Proofs.YtoejaknfoniphaaW.PrintWords Go.Proofs.YtoejaknfoniphaaW.PrintLast Go.Proofs.YtoejaknfoniphaaW.PrintMore
attribute [local go_sem] max2_int min2_int max_two min_two max_three min_three max_four min_four
set_option linter.unusedVariables false

theorem u8_bd {a : Int} (h : (Lit.int .u8 a).wf = true) : 0 ≤ a ∧ a ≤ 255 := by
  have h1 : IntKind.u8.min = 0 := by decide
  have h2 : IntKind.u8.max = 255 := by decide
  simp [Lit.wf, h1, h2] at h
  omega

theorem rising_snoc {l : List Int} {x : Int} (h : Rising l) (hx : ∀ t ∈ l, t < x) : Rising (l ++ [x]) := by
  unfold Rising at h ⊢
  rw [List.pairwise_append]
  exact ⟨h, by simp, fun a ha b hb => by obtain rfl : b = x := by simpa using hb
                                         exact hx a ha⟩

set_option maxHeartbeats 4000000 in
theorem over_calls (a0 : Int) (w0 : (Lit.int .u8 a0).wf = true) (w : World) : Calls Try.prog 4 #[.int .u8 a0] w fun e w' => e = .returned (.bool true) ∧ Below w.heap.size w w' := by
  obtain ⟨b0, b1⟩ := u8_bd w0
  obtain ⟨k, hk⟩ : ∃ k, Int.tmod a0 5 = k := ⟨_, rfl⟩
  have hk0 : 0 ≤ k ∧ k ≤ 4 := by rw [← hk, Int.tmod_eq_emod_of_nonneg b0]; omega
  have e0 : wrap64 k = k := by unfold wrap64; omega
  have e1 : wrap64 (1099511627776 - k) = 1099511627776 - k := by unfold wrap64; omega
  have e2 : wrap64 (k + 1) = k + 1 := by unfold wrap64; omega
  clear w0
  go_enter Try.func4, Try.ntmps4
  go_wp2_with fail
  refine (awake_calls _).mono ?_
  rintro e w1 ⟨rfl, hb1⟩
  have HB := Aside0.mk hb1
  clear hb1
  go_wp2_with fail
  refine (new_some (1099511627776 - k) (by omega) (by omega) _).mono ?_
  rintro e w2 ⟨rfl, hc, hb⟩
  have HS := Aside0.mk (St.made HB.out hc hb)
  obtain ⟨p, hp⟩ : ∃ p, w1.heap.size + 1 = p := ⟨_, rfl⟩
  obtain ⟨b, hbb⟩ : ∃ b, w1.heap.size = b := ⟨_, rfl⟩
  rw [hp, hbb] at HS
  rw [hp]
  clear hc hb HB hp hbb
  go_wp2
  go_loopg [6] (k + 1).toNat (fun g v6 w' => ∃ (j : Int) (act : List Int) (n : Nat), v6 = .int .i64 j ∧ Aside0 (0 ≤ j ∧ j + g = k + 1 ∧ (act.length : Int) = j ∧ n ≤ j.toNat) ∧ Aside0 (Rising act ∧ ∀ t ∈ act, t < 1099511627776 - k + j) ∧ Aside0 (St w w' p b n (1099511627776 - k + j) act))
  case atStart => exact ⟨0, [], 0, rfl, ⟨by simp; omega⟩, ⟨by unfold Rising; simp, fun t ht => by cases ht⟩, ⟨by rw [Int.add_zero]; exact HS.out⟩⟩
  case round =>
    clear HS
    obtain ⟨j, act, n, rfl, HJ, HA, HS⟩ := hrel
    have hj := HJ.out
    cases gk with
    | zero =>
      have d1 : decide (j ≤ k) = false := decide_eq_false (by omega)
      have hnx : 1099511627776 - k + j = 1099511627777 := by omega
      have hs := HS.out
      rw [hnx] at hs
      have HS2 := Aside0.mk hs
      have hal : (act.length : Int) = k + 1 := by omega
      have hn : n ≤ 1000 := by omega
      clear hs hnx hj HS
      go_wp2_with fail
      refine (issue_over _ HS2.out.clk (by omega)).mono ?_
      rintro e w3 ⟨rfl, rfl⟩
      go_wp2_with fail
      refine (next_calls _ HS2.out.clk).mono ?_
      rintro e w4 ⟨rfl, rfl⟩
      go_wp2_with fail
      refine (active_tells _ HS2.out.clk hn HA.out.1).mono ?_
      rintro e w5 ⟨A, c, rfl, _, _, hb5⟩
      have HS3 := Aside0.mk (HS2.out.go hb5)
      clear hb5 HS2
      go_wp2
      go_ret
      exact ⟨rfl, HS3.out.below⟩
    | succ g =>
      have d1 : decide (j ≤ k) = true := decide_eq_true (by omega)
      have h0 : 0 ≤ j := hj.1
      have h1 : j ≤ k := by omega
      have e3 : wrap64 (1099511627776 - k + j) = 1099511627776 - k + j := by unfold wrap64; omega
      have e4 : wrap64 (j + 1) = j + 1 := by unfold wrap64; omega
      have hn : n < 1000 := by omega
      clear hj
      go_wp2_with fail
      refine (issue_calls _ HS.out.clk (by omega) (by omega) HA.out.2 hn).mono ?_
      rintro e w3 ⟨rfl, hc, hm⟩
      have hs := HS.out.moved hc hm
      have he : 1099511627776 - k + j + 1 = 1099511627776 - k + (j + 1) := by omega
      rw [he] at hs
      have HS2 := Aside0.mk hs
      have HA2 := Aside0.mk (show Rising (act ++ [1099511627776 - k + j]) ∧ ∀ t ∈ act ++ [1099511627776 - k + j], t < 1099511627776 - k + (j + 1) from ⟨rising_snoc HA.out.1 HA.out.2, fun t ht => by
        rcases List.mem_append.1 ht with ht | ht
        · have := HA.out.2 t ht; omega
        · have : t = 1099511627776 - k + j := by simpa using ht
          omega⟩)
      clear hc hm hs he HS HA
      go_wp2
      go_roundg g
      case measure => omega
      case rel => exact ⟨j + 1, _, n + 1, rfl, ⟨by have := HJ.out; rw [List.length_append]; simp; omega⟩, HA2, HS2⟩
end Go.Proofs.Ytoejaknfoniphaa
