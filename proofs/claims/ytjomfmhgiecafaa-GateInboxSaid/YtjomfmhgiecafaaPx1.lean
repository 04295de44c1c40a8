-- Written for this claim by a program of this seat's (wip/tools), by way of the kit's printing program; not one of its printed files. Lean checks it.
import Derived.Test.YtjomfmhgiecafaaPx0
namespace Go.Proofs.Ytjomfmhgiecafaa.P
open Go.RowKit Go.Proofs.YtjomfmhgiecafaaW.PrintWords Go.Proofs.YtjomfmhgiecafaaW.PrintLast Go.Proofs.YtjomfmhgiecafaaW.PrintMore
attribute [local go_sem] max2_int min2_int max_two min_two max_three min_three max_four min_four   -- for this text's walks alone
set_option linter.unusedVariables false
set_option linter.unusedSimpArgs false

/-! ### gate_Backoff: function 9 -/
def gate_Backoff.l0 : Nat → Int → Int → Int → Int → Option (Int)
  | 0, _, _, _, _ => none
  | k + 1, x1, x5, x7, x8 => if x8 < x7 then (if x5 ≥ x1 then (some (mx (mn x5 x1) 0)) else (gate_Backoff.l0 k x1 (wrap64 (x5 + (wrap64 (x5 + 1)))) x7 (wrap64 (x8 + 1)))) else (some (mx (mn x5 x1) 0))
def gate_Backoff.f (k : Nat) (a0 : Int) (a1 : Int) : Option (Int) := gate_Backoff.l0 k a1 0 (mx a0 0) 0
theorem gate_Backoff.mono_l : ∀ k, (∀ y0 y1 y2 y3, LeO (gate_Backoff.l0 k y0 y1 y2 y3) (gate_Backoff.l0 (k + 1) y0 y1 y2 y3))
  | 0 => fun _ _ _ _ r h => by simp [gate_Backoff.l0] at h
  | k + 1 => by
    have ih0 := gate_Backoff.mono_l k
    · intro y0 y1 y2 y3
      unfold gate_Backoff.l0
      repeat' first
      | (with_reducible exact ih0 _ _ _ _)
      | (with_reducible exact LeO.refl _)
      | (with_reducible exact LeO.none _)
      | (with_reducible refine LeO.ite ?_ ?_)
      | (with_reducible refine LeO.bind ?_ (fun _ => ?_))
      | exact ih0 _ _ _ _
      | exact LeO.none _
      | refine LeO.ite ?_ ?_
      | refine LeO.bind ?_ (fun _ => ?_)
theorem gate_Backoff.mono : ∀ a0 a1 k, LeO (gate_Backoff.f k a0 a1) (gate_Backoff.f (k + 1) a0 a1) := by
  intro a0 a1 k
  have ih0 := gate_Backoff.mono_l k
  unfold gate_Backoff.f
  repeat' first
      | (with_reducible exact ih0 _ _ _ _)
      | (with_reducible exact LeO.refl _)
      | (with_reducible exact LeO.none _)
      | (with_reducible refine LeO.ite ?_ ?_)
      | (with_reducible refine LeO.bind ?_ (fun _ => ?_))
      | exact ih0 _ _ _ _
      | exact LeO.none _
      | refine LeO.ite ?_ ?_
      | refine LeO.bind ?_ (fun _ => ?_)
set_option maxHeartbeats 8000000 in
set_option maxRecDepth 100000 in
theorem gate_Backoff.calls (k : Nat) (a0 : Int) (a1 : Int) (r : Int) (w : World) (h : gate_Backoff.f k a0 a1 = some r) :
    Calls Try.prog 9 #[.int .i64 a0, .int .i64 a1] w fun e w' => e = .returned (.int .i64 r) ∧ Below w.heap.size w w' := by
  have HB := Aside0.mk (Below.refl w.heap.size w)
  have H : (gate_Backoff.l0 k a1 0 (mx a0 0) 0) = some r := h
  clear h
  obtain ⟨ji3, hji3⟩ : ∃ j_ : Int, (mx a0 0) = j_ := ⟨_, rfl⟩
  replace H : (gate_Backoff.l0 k a1 0 ji3 0) = some r := by first | (rw [hji3] at H; exact H) | (simp only [hji3] at H ⊢; exact H)
  (try (have hji3l : 0 ≤ ji3 := by (rw [← hji3]; unfold mx; (repeat' split) <;> omega)))
  (try (have hji3m : 0 ≤ ji3 := by omega))
  have hji3_ : (if a0 < 0 then 0 else a0) = ji3 := hji3
  have H' := Aside0.mk H
  clear H
  go_enter Try.func9, Try.ntmps9
  go_wp2
  go_loopg [5, 8] k (fun kq v5 v8 w' => ∃ (x5_1 : Int) (x8_1 : Int), v5 = .int .i64 x5_1 ∧ v8 = .int .i64 x8_1 ∧ Aside0 (gate_Backoff.l0 kq a1 x5_1 ji3 x8_1 = some r) ∧ Aside0 (kq ≤ k) ∧ Aside0 (Below w.heap.size w w'))
  case atStart => exact ⟨(0), (0), (by first | rfl | (simp; done) | (simp [*]; done)), (by first | rfl | (simp; done) | (simp [*]; done)), H', ⟨Nat.le_refl _⟩, ⟨by repeat (first | (with_reducible first | exact HB.out | apply below_alloc | apply pw_below_drewN | apply below_drew1) | exact HB.out)⟩⟩
  case round =>
    clear H'
    try clear p2
    obtain ⟨x5_1, x8_1, rfl, rfl, HA, HK1, HB⟩ := hrel
    cases gk with
    | zero => exact absurd HA.out (by simp [gate_Backoff.l0])
    | succ k1 =>
      have H := HA.out
      clear HA
      simp only [gate_Backoff.l0] at H
      by_cases c4 : x8_1 < ji3
      · rw [if_pos c4] at H
        have c4b0 : decide (x8_1 < ji3) = true := decide_eq_true c4
        clear c4
        by_cases c5 : x5_1 ≥ a1
        · rw [if_pos c5] at H
          have c5b0 : decide (a1 ≤ x5_1) = true := decide_eq_true c5
          clear c5
          obtain ⟨ji6, hji6⟩ : ∃ j_ : Int, (mn x5_1 a1) = j_ := ⟨_, rfl⟩
          replace H : (some (mx (ji6) 0)) = some r := by first | (rw [hji6] at H; exact H) | (simp only [hji6] at H ⊢; exact H)
          have hji6_ : (if a1 < x5_1 then a1 else x5_1) = ji6 := hji6
          obtain ⟨ji7, hji7⟩ : ∃ j_ : Int, (mx (ji6) 0) = j_ := ⟨_, rfl⟩
          replace H : (some ji7) = some r := by first | (rw [hji7] at H; exact H) | (simp only [hji7] at H ⊢; exact H)
          have hji7_ : (if (ji6) < 0 then 0 else (ji6)) = ji7 := hji7
          obtain rfl := Option.some.inj H
          go_wp2
          go_ret
          exact ⟨by first | rfl | (simp [errW_none, errW_some] <;> rfl) | (simp only [← hji3, ← hji6, ← hji7]; first | rfl | (simp [errW_none, errW_some] <;> rfl)) | (simp [*, errW_none, errW_some] <;> rfl), by repeat (first | (with_reducible first | exact HB.out | apply below_alloc | apply pw_below_drewN | apply below_drew1) | exact HB.out)⟩
        · rw [if_neg c5] at H
          have c5b0 : decide (a1 ≤ x5_1) = false := decide_eq_false c5
          clear c5
          have H' := Aside0.mk H
          clear H
          go_wp2
          go_roundg k1
          case measure => have := HK1.out; omega
          case rel => exact ⟨(wrap64 (x5_1 + (wrap64 (x5_1 + 1)))), (wrap64 (x8_1 + 1)), (by first | rfl | (simp; done) | (simp [*]; done)), (by first | rfl | (simp; done) | (simp [*]; done)), H', ⟨by have := HK1.out; omega⟩, ⟨by repeat (first | (with_reducible first | exact HB.out | apply below_alloc | apply pw_below_drewN | apply below_drew1) | exact HB.out)⟩⟩
      · rw [if_neg c4] at H
        have c4b0 : decide (x8_1 < ji3) = false := decide_eq_false c4
        clear c4
        obtain ⟨ji8, hji8⟩ : ∃ j_ : Int, (mn x5_1 a1) = j_ := ⟨_, rfl⟩
        replace H : (some (mx (ji8) 0)) = some r := by first | (rw [hji8] at H; exact H) | (simp only [hji8] at H ⊢; exact H)
        have hji8_ : (if a1 < x5_1 then a1 else x5_1) = ji8 := hji8
        obtain ⟨ji9, hji9⟩ : ∃ j_ : Int, (mx (ji8) 0) = j_ := ⟨_, rfl⟩
        replace H : (some ji9) = some r := by first | (rw [hji9] at H; exact H) | (simp only [hji9] at H ⊢; exact H)
        have hji9_ : (if (ji8) < 0 then 0 else (ji8)) = ji9 := hji9
        obtain rfl := Option.some.inj H
        go_wp2
        go_ret
        exact ⟨by first | rfl | (simp [errW_none, errW_some] <;> rfl) | (simp only [← hji3, ← hji8, ← hji9]; first | rfl | (simp [errW_none, errW_some] <;> rfl)) | (simp [*, errW_none, errW_some] <;> rfl), by repeat (first | (with_reducible first | exact HB.out | apply below_alloc | apply pw_below_drewN | apply below_drew1) | exact HB.out)⟩

end Go.Proofs.Ytjomfmhgiecafaa.P
