/- ChainMay: what may be stays so. -/
import Derived.Test.YtdiahlfhcbcceaaChainC
import Derived.Test.YtdiahlfhcbcceaaPx26
namespace Go.Proofs.Ytdiahlfhcbcceaa.Pure
open Go.RowKit Go.Proofs.Ytdiahlfhcbcceaa.P

theorem may_law_loop (ds : List S51) : ∀ (d i : Nat) (l : List S27) (k : Nat), 60 - i = d → i ≤ 60 → Inv l → l.length ≤ i + 1 → 2 * d + 200 < k → ogivelaw10_ChainMay.l0 k ds true l (i : Int) = some true := by
  intro d
  induction d with
  | zero =>
    intro i l k hd hi hI hl hk
    obtain ⟨k, rfl⟩ : ∃ q, k = q + 2 := ⟨k - 2, by omega⟩
    simp only [ogivelaw10_ChainMay.l0]
    rw [decide_eq_false (by omega : ¬ (i : Int) < 60)]
    simp [ogivelaw10_ChainMay.j1]
  | succ d ih =>
    intro i l k hd hi hI hl hk
    obtain ⟨k, rfl⟩ : ∃ q, k = q + 2 := ⟨k - 2, by omega⟩
    simp only [ogivelaw10_ChainMay.l0]
    by_cases c : (i : Int) < (ds.length : Int)
    · obtain ⟨l1, h1, hD⟩ := do_did hI (by omega) (rd_T51 ds (i : Int)).f0 (rd_T51 ds (i : Int)).f1 (rd_T51 ds (i : Int)).f2
      have hlen := hD.len
      have hI1 := hD.inv hI
      have e1 : wrap64 ((i : Int) + 1) = ((i + 1 : Nat) : Int) := by unfold wrap64; omega
      have next := ih (i + 1) l1 k (by omega) (by omega) hI1 (by omega) (by omega)
      rw [if_pos c, decide_eq_true (by omega : (i : Int) < 60)]
      simp only [ogivelaw10_ChainMay.j1]
      rw [if_pos trivial, if_pos (by omega), if_pos c, h1 k (by omega)]
      simp only [Option.bind_some]
      rw [may_good hI1.good (by omega) k (by omega)]
      obtain ⟨x, r, rfl, h3, h0⟩ := hI1.head
      simp only [Option.bind_some]
      have e0 : rd_T27 (x :: r) 0 = x := rfl
      rw [if_pos trivial, if_pos (by simp), e0, if_pos h3, if_pos h0, e1]
      exact next
    · rw [if_neg c]
      simp [ogivelaw10_ChainMay.j1]

theorem ChainMay (l0 : List S51) (_ : ∀ x ∈ l0, True) : ∃ k, ogivelaw10_ChainMay.f k l0 = some true := by
  refine ⟨1000, ?_⟩
  unfold ogivelaw10_ChainMay.f
  rw [awake_tells 1000 (by omega), fresh_is]
  exact may_law_loop l0 60 0 fresh 1000 (by omega) (by omega) fresh_inv (by simp [fresh]) (by omega)
end Go.Proofs.Ytdiahlfhcbcceaa.Pure
