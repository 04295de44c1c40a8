/- Rests grow with failures, up to the most: one failure more is twice as long, and one; proved for every number of failures and every most, without a condition. -/
import Derived.Test.YtjomfmhgiecafaaPx8
namespace Go.Proofs.Ytjomfmhgiecafaa.Pure
open Go.RowKit Go.Proofs.Ytjomfmhgiecafaa.P Go.Proofs.YtjomfmhgiecafaaW.PrintWords Go.Proofs.YtjomfmhgiecafaaW.PrintLast

/-- The rest behind t rounds more, unclamped. -/
def bo (m : Int) : Nat → Int → Int
  | 0, x => x
  | t + 1, x => if x ≥ m then x else bo m t (2 * x + 1)

theorem bo_big (m : Int) (t : Nat) (x : Int) (h : x ≥ m) : bo m t x = x := by
  cases t with
  | zero => rfl
  | succ t => rw [bo, if_pos h]

theorem bo_step (m : Int) (hm : 0 ≤ m) (t : Nat) : ∀ x : Int, 0 ≤ x → mn (bo m (t + 1) x) m = mn (2 * mn (bo m t x) m + 1) m := by
  induction t with
  | zero =>
    intro x hx
    by_cases h : x ≥ m
    · rw [bo_big m _ x h, bo_big m _ x h]; unfold mn; (repeat' split) <;> omega
    · simp only [bo, if_neg h]; unfold mn; (repeat' split) <;> omega
  | succ t ih =>
    intro x hx
    by_cases h : x ≥ m
    · rw [bo_big m _ x h, bo_big m _ x h]; unfold mn; (repeat' split) <;> omega
    · have e := ih (2 * x + 1) (by omega)
      have e1 : bo m (t + 1 + 1) x = bo m (t + 1) (2 * x + 1) := by rw [bo, if_neg h]
      have e2 : bo m (t + 1) x = bo m t (2 * x + 1) := by rw [bo, if_neg h]
      rw [e1, e2]; exact e

theorem bo_ge (m : Int) (t : Nat) : ∀ x : Int, 0 ≤ x → x ≤ bo m t x := by
  induction t with
  | zero => intro x _; exact Int.le_refl _
  | succ t ih =>
    intro x hx
    by_cases h : x ≥ m
    · rw [bo_big m _ x h]; omega
    · rw [bo, if_neg h]; have := ih (2 * x + 1) (by omega); omega

theorem l0_bo (m c : Int) (hm : 0 ≤ m) (hm2 : m ≤ 4294967296) (t : Nat) : ∀ (k : Nat) (x i : Int), 0 ≤ x → x ≤ 8589934593 → 0 ≤ i → c - i = t → c ≤ 4294967296 → t < k → gate_Backoff.l0 k m x c i = some (mn (bo m t x) m) := by
  induction t with
  | zero =>
    intro k x i hx hx2 hi hc hc2 hk
    obtain ⟨k, rfl⟩ : ∃ q, k = q + 1 := ⟨k - 1, by omega⟩
    simp only [gate_Backoff.l0]
    rw [if_neg (by omega), bo]
    congr 1
    unfold mx mn; (repeat' split) <;> omega
  | succ t ih =>
    intro k x i hx hx2 hi hc hc2 hk
    obtain ⟨k, rfl⟩ : ∃ q, k = q + 1 := ⟨k - 1, by omega⟩
    simp only [gate_Backoff.l0]
    rw [if_pos (by omega)]
    by_cases h : x ≥ m
    · rw [if_pos h, bo_big m _ x h]
      congr 1
      unfold mx mn; (repeat' split) <;> omega
    · rw [if_neg h, bo, if_neg h]
      have e1 : wrap64 (x + wrap64 (x + 1)) = 2 * x + 1 := by unfold wrap64; omega
      have e2 : wrap64 (i + 1) = i + 1 := by unfold wrap64; omega
      rw [e1, e2]
      exact ih k (2 * x + 1) (i + 1) (by omega) (by omega) (by omega) (by omega) hc2 (by omega)

theorem backoff_bo (k : Nat) (n m : Int) (h0 : 0 ≤ n) (h1 : n ≤ 4294967296) (hm : 0 ≤ m) (hm2 : m ≤ 4294967296) (hk : n.toNat < k) : gate_Backoff.f k n m = some (mn (bo m n.toNat 0) m) := by
  unfold gate_Backoff.f
  have e : mx n 0 = n := by unfold mx; (repeat' split) <;> omega
  rw [e]
  exact l0_bo m n hm hm2 n.toNat k 0 0 (by omega) (by omega) (by omega) (by omega) h1 hk

theorem ChangeAtBounds (n : Int) (h : (Lit.int .u8 n).wf = true) : 0 ≤ n ∧ n ≤ 255 := by
  have h' : (decide (IntKind.u8.min ≤ n) && decide (n ≤ IntKind.u8.max)) = true := h
  simpa [IntKind.min, IntKind.max, IntKind.signed, IntKind.bits] using h'

theorem GateRests : ogivelaw18_GateRests.Pure := by
  intro a0 a1 w0 w1
  have b0 := ChangeAtBounds a0 w0
  have b1 := ChangeAtBounds a1 w1
  have en : wrap64 (Int.tmod a0 70) = Int.tmod a0 70 := by
    rw [Int.tmod_eq_emod_of_nonneg b0.1]; unfold wrap64; omega
  have hn0 : 0 ≤ Int.tmod a0 70 ∧ Int.tmod a0 70 ≤ 69 := by
    rw [Int.tmod_eq_emod_of_nonneg b0.1]; omega
  obtain ⟨n, hn⟩ : ∃ n, Int.tmod a0 70 = n := ⟨_, rfl⟩
  rw [hn] at en hn0
  have em : wrap64 a1 = a1 := by unfold wrap64; omega
  have en1 : wrap64 (n + 1) = n + 1 := by unfold wrap64; omega
  have h1 := backoff_bo 100 n a1 (by omega) (by omega) (by omega) (by omega) (by omega)
  have h2 := backoff_bo 100 (n + 1) a1 (by omega) (by omega) (by omega) (by omega) (by omega)
  have h3 := backoff_bo 100 0 a1 (by omega) (by omega) (by omega) (by omega) (by omega)
  have hs := bo_step a1 b1.1 n.toNat 0 (by omega)
  have e1 : (n + 1).toNat = n.toNat + 1 := by omega
  rw [e1, hs] at h2
  have hg := bo_ge a1 n.toNat 0 (by omega)
  generalize bo a1 n.toNat 0 = b at h1 h2 hg
  have hb1 : 0 ≤ mn b a1 ∧ mn b a1 ≤ a1 := by unfold mn; constructor <;> (repeat' split) <;> omega
  generalize mn b a1 = r at h1 h2 hb1
  have hb2 : r ≤ mn (2 * r + 1) a1 := by unfold mn; (repeat' split) <;> omega
  have e2 : wrap64 (wrap64 (2 * r) + 1) = 2 * r + 1 := by unfold wrap64; omega
  refine ⟨100, ?_⟩
  unfold ogivelaw18_GateRests.f ogivelaw18_awake.f
  have h3' : gate_Backoff.f 100 0 a1 = some 0 := by
    rw [h3]
    show some (mn 0 a1) = some 0
    congr 1
    unfold mn; (repeat' split) <;> omega
  simp only [Option.bind_some, hn, en, em, en1, h1, h2, h3', e2, if_true]
  rw [if_pos (by omega), if_pos (by omega), if_pos (by omega)]
  rfl

end Go.Proofs.Ytjomfmhgiecafaa.Pure
