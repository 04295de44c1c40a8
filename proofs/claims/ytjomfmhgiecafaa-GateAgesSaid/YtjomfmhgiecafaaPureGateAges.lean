/- Whoever is lost or denied, in whatever turns, as often as it takes, is aged: for every number of failures that it takes, every most, and every turns; without a condition. -/
import Derived.Test.YtjomfmhgiecafaaPureGateRests
import Derived.Test.YtjomfmhgiecafaaPx19
namespace Go.Proofs.Ytjomfmhgiecafaa.Pure
open Go.RowKit Go.Proofs.Ytjomfmhgiecafaa.P Go.Proofs.YtjomfmhgiecafaaW.PrintWords Go.Proofs.YtjomfmhgiecafaaW.PrintLast

theorem older_yes (a b c n : Int) (g : Bool) (h : b < n) (hb : 0 ≤ b) (hn : n ≤ 4294967296) : gate_older.f a b c g n = some (a, b + 1, c, g) := by
  unfold gate_older.f
  have e : wrap64 (b + 1) = b + 1 := by unfold wrap64; omega
  rw [if_pos h, e]
theorem older_no (a b c n : Int) (g : Bool) (h : ¬ b < n) : gate_older.f a b c g n = some (a, b, c, g) := by
  unfold gate_older.f
  rw [if_neg h]
theorem aged3 (b n r : Int) (g : Bool) : gate_Aged.f 3 b r g n = some (decide (b ≥ n)) := by
  unfold gate_Aged.f
  rw [if_pos (by decide)]

/-- A lost one: it rests no longer than the most, or it is aged and doesn't rest. -/
theorem lost_tells (k : Nat) (t n M : Int) (ht : 0 ≤ t) (htn : t ≤ n) (hn : n ≤ 9) (hM : 0 ≤ M) (hM2 : M ≤ 19) (hk : 11 ≤ k) :
    ∃ t' r', gate_Lost.f k 3 t 0 false n M = some (3, t', r', false) ∧ 0 ≤ r' ∧ r' ≤ M ∧ t' ≤ n ∧ ((t' = n ∧ r' = 0) ∨ (t' = t + 1 ∧ t' < n)) := by
  unfold gate_Lost.f
  by_cases h : t < n
  · rw [older_yes 3 t 0 n false h ht (by omega)]
    simp only [Option.bind_some, aged3]
    by_cases h2 : t + 1 ≥ n
    · refine ⟨t + 1, 0, by simp [h2], by omega, by omega, by omega, .inl ⟨by omega, rfl⟩⟩
    · have e := backoff_bo k (t + 1) M (by omega) (by omega) (by omega) (by omega) (by omega)
      have hg := bo_ge M (t + 1).toNat 0 (by omega)
      generalize bo M (t + 1).toNat 0 = b at e hg
      refine ⟨t + 1, mn b M, by simp [h2, e], ?_, ?_, by omega, .inr ⟨rfl, by omega⟩⟩ <;> (unfold mn; (repeat' split) <;> omega)
  · rw [older_no 3 t 0 n false h]
    simp only [Option.bind_some, aged3]
    have h2 : t ≥ n := by omega
    exact ⟨t, 0, by simp [h2], by omega, by omega, by omega, .inl ⟨by omega, rfl⟩⟩

theorem denied_rest (t n r : Int) (hr : 0 < r) (hr2 : r ≤ 19) : gate_Denied.f 3 t r false n = some (3, t, r - 1, false) := by
  unfold gate_Denied.f
  have e : wrap64 (r - 1) = r - 1 := by unfold wrap64; omega
  rw [if_pos hr, e]
theorem denied_more (t n : Int) (ht : 0 ≤ t) (htn : t ≤ n) (hn : n ≤ 9) : ∃ t', gate_Denied.f 3 t 0 false n = some (3, t', 0, false) ∧ t' ≤ n ∧ (t' = n ∨ (t' = t + 1 ∧ t' < n)) := by
  unfold gate_Denied.f
  rw [if_neg (by decide)]
  by_cases h : t < n
  · rw [older_yes 3 t 0 n false h ht (by omega)]
    exact ⟨t + 1, rfl, by omega, by omega⟩
  · rw [older_no 3 t 0 n false h]
    exact ⟨t, rfl, by omega, by omega⟩

theorem ages_loop (x1 : Int) (l : List Bool) (n M R : Int) (hn0 : 1 ≤ n) (hn : n ≤ 9) (hM : 0 ≤ M) (hM2 : M ≤ 19) (eM : wrap64 (Int.tmod x1 20) = M) (eR : wrap64 (n * (wrap64 (M + 2))) = R) (hR : R = n * (M + 2)) (hR2 : R ≤ 189) (hR1 : 2 ≤ R) (d : Nat) :
    ∀ (k : Nat) (i t r : Int), R - i = d → 2 * d + 20 ≤ k → 0 ≤ i → 0 ≤ t → t ≤ n → 0 ≤ r → r ≤ M → (t = n → r = 0) → (t < n → i + r ≤ t * (M + 1)) →
      ogivelaw18_GateAges.l0 k x1 l true n i i 3 t r false = some true := by
  induction d with
  | zero =>
    intro k i t r hi hk h0 ht htn hr hrM hend hless
    obtain ⟨k, rfl⟩ : ∃ q, k = q + 1 := ⟨k - 1, by omega⟩
    have htn' : t = n := by
      rcases Int.lt_or_eq_of_le htn with hlt | he
      · exfalso
        have h1 := hless hlt
        have h2 : t * (M + 1) ≤ (n - 1) * (M + 1) := Int.mul_le_mul_of_nonneg_right (by omega) (by omega)
        have h3 : (n - 1) * (M + 1) = n * (M + 1) - (M + 1) := by rw [Int.sub_mul, Int.one_mul]
        have h4 : n * (M + 2) = n * (M + 1) + n := by rw [show M + 2 = (M + 1) + 1 by omega, Int.mul_add, Int.mul_one]
        omega
      · exact he
    have hr0 := hend htn'
    subst htn' hr0
    simp only [ogivelaw18_GateAges.l0, eM, eR]
    rw [if_neg (by omega), aged3]
    simp
    omega
  | succ d ih =>
    intro k i t r hi hk h0 ht htn hr hrM hend hless
    obtain ⟨k, rfl⟩ : ∃ q, k = q + 1 := ⟨k - 1, by omega⟩
    obtain ⟨k, rfl⟩ : ∃ q, k = q + 1 := ⟨k - 1, by omega⟩
    have e1 : wrap64 (i + 1) = i + 1 := by unfold wrap64; omega
    have em : (t + 1) * (M + 1) = t * (M + 1) + (M + 1) := by rw [Int.add_mul, Int.one_mul]
    have step : ∀ b : Bool, (b = true → r = 0) → ogivelaw18_GateAges.j1 (k + 1) x1 l true n i i b 3 t r false = some true := by
      intro b hb
      simp only [ogivelaw18_GateAges.j1, eM, e1]
      cases b with
      | true =>
        have hr0 := hb rfl
        subst hr0
        obtain ⟨t', r', hf, hr1, hr2, ht1, hcase⟩ := lost_tells k t n M ht htn hn hM hM2 (by omega)
        rw [if_pos rfl, hf]
        simp only [Option.bind_some]
        rw [if_neg (by omega), if_neg (by omega), if_neg (by omega), if_pos trivial]
        refine ih k (i + 1) t' r' (by omega) (by omega) (by omega) (by omega) ht1 hr1 hr2 (by omega) (fun hlt => ?_)
        rcases hcase with ⟨h1, h2⟩ | ⟨h1, h2⟩
        · omega
        · subst h1
          have := hless (by omega)
          omega
      | false =>
        rw [if_neg (by decide)]
        by_cases hr0 : r = 0
        · subst hr0
          obtain ⟨t', hf, ht1, hcase⟩ := denied_more t n ht htn hn
          rw [hf]
          simp only [Option.bind_some]
          rw [if_neg (by omega), if_neg (by omega), if_neg (by omega), if_pos trivial]
          refine ih k (i + 1) t' 0 (by omega) (by omega) (by omega) (by omega) ht1 (by omega) (by omega) (fun _ => rfl) (fun hlt => ?_)
          rcases hcase with h1 | ⟨h1, h2⟩
          · omega
          · subst h1
            have := hless (by omega)
            omega
        · rw [denied_rest t n r (by omega) (by omega)]
          simp only [Option.bind_some]
          rw [if_neg (by omega), if_neg (by omega), if_neg (by omega), if_pos trivial]
          refine ih k (i + 1) t (r - 1) (by omega) (by omega) (by omega) (by omega) htn (by omega) (by omega) (fun he => ?_) (fun hlt => ?_)
          · have := hend he
            omega
          · have := hless hlt
            omega
    simp only [ogivelaw18_GateAges.l0, eM, eR]
    rw [if_pos (by omega)]
    by_cases hr0 : r = 0
    · rw [if_pos hr0]
      by_cases hl : (l.length : Int) > 0
      · have m0 : 0 ≤ Int.tmod i (l.length : Int) := Int.tmod_nonneg _ h0
        have m1 : Int.tmod i (l.length : Int) < (l.length : Int) := Int.tmod_lt_of_pos _ hl
        rw [if_pos hl, if_neg (by omega), if_pos m0, if_pos m1]
        exact step _ (fun _ => hr0)
      · rw [if_neg hl]
        exact step false (fun h => by cases h)
    · rw [if_neg hr0]
      exact step false (fun h => by cases h)

theorem GateAges (a0 a1 : Int) (l2 : List Bool) (w0 : (Lit.int .u8 a0).wf = true) (w1 : (Lit.int .u8 a1).wf = true) (_ : ∀ x ∈ l2, True) : ∃ k, ogivelaw18_GateAges.f k a0 a1 l2 = some true := by
  have b0 := ChangeAtBounds a0 w0
  have b1 := ChangeAtBounds a1 w1
  obtain ⟨u, hu⟩ : ∃ u, Int.tmod a0 9 = u := ⟨_, rfl⟩
  have bu : 0 ≤ u ∧ u ≤ 8 := by rw [← hu, Int.tmod_eq_emod_of_nonneg b0.1]; omega
  obtain ⟨M, hM⟩ : ∃ M, Int.tmod a1 20 = M := ⟨_, rfl⟩
  have bM : 0 ≤ M ∧ M ≤ 19 := by rw [← hM, Int.tmod_eq_emod_of_nonneg b1.1]; omega
  have e1 : wrap64 (1 + wrap64 u) = 1 + u := by unfold wrap64; omega
  have e2 : wrap64 M = M := by unfold wrap64; omega
  have e3 : wrap64 (M + 2) = M + 2 := by unfold wrap64; omega
  have hle : (1 + u) * (M + 2) ≤ 9 * 21 := Int.mul_le_mul (by omega) (by omega) (by omega) (by omega)
  have hge : 1 * 2 ≤ (1 + u) * (M + 2) := Int.mul_le_mul (by omega) (by omega) (by omega) (by omega)
  obtain ⟨R, hR⟩ : ∃ R, (1 + u) * (M + 2) = R := ⟨_, rfl⟩
  rw [hR] at hle hge
  have e4 : wrap64 R = R := by unfold wrap64; omega
  refine ⟨2 * R.toNat + 20, ?_⟩
  unfold ogivelaw18_GateAges.f ogivelaw18_awake.f
  simp only [Option.bind_some, hu, e1]
  exact ages_loop a1 l2 (1 + u) M R (by omega) (by omega) bM.1 bM.2 (by rw [hM, e2]) (by rw [e3, hR, e4]) hR.symm (by omega) (by omega) R.toNat _ 0 0 0 (by omega) (by omega) (by omega) (by omega) (by omega) (by omega) bM.1 (fun _ => rfl) (fun _ => by omega)

end Go.Proofs.Ytjomfmhgiecafaa.Pure
