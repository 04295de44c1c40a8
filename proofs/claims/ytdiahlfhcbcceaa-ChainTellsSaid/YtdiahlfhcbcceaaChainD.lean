/- Chains as lists: told as the document has them, and back; the same. -/
import Derived.Test.YtdiahlfhcbcceaaChainC
import Derived.Test.YtdiahlfhcbcceaaPx17
import Derived.Test.YtdiahlfhcbcceaaPx18
namespace Go.Proofs.Ytdiahlfhcbcceaa.Pure
open Go.RowKit Go.Proofs.Ytdiahlfhcbcceaa.P

def to30 (x : S27) : S30 := ⟨x.f0, x.f1, x.f2, x.f3⟩

theorem rd_map (l : List S27) (i : Nat) (h : i < l.length) : rd_T30 (l.map to30) (i : Int) = to30 (rd_T27 l (i : Int)) := by
  rw [rd_get h]
  unfold rd_T30
  rw [Int.toNat_natCast, List.getD_eq_getElem?_getD, List.getElem?_eq_getElem (by rw [List.length_map]; exact h)]
  simp

theorem real_loop (l : List S27) (hl : l.length ≤ 1000) : ∀ (d i k : Nat) (acc : List S30), l.length - i = d → i ≤ l.length → acc = (l.take i).map to30 → d < k → ogivelaw10_real.l0 k l acc (i : Int) = some (l.map to30) := by
  intro d
  induction d with
  | zero =>
    intro i k acc hd hi ha hk
    obtain ⟨k, rfl⟩ : ∃ q, k = q + 1 := ⟨k - 1, by omega⟩
    simp only [ogivelaw10_real.l0]
    rw [if_neg (by omega), ha, List.take_of_length_le (by omega)]
  | succ d ih =>
    intro i k acc hd hi ha hk
    obtain ⟨k, rfl⟩ : ∃ q, k = q + 1 := ⟨k - 1, by omega⟩
    have e1 : wrap64 ((i : Int) + 1) = ((i + 1 : Nat) : Int) := by unfold wrap64; omega
    have hal : acc.length = i := by rw [ha, List.length_map, List.length_take]; omega
    simp only [ogivelaw10_real.l0]
    rw [if_pos (by omega), if_pos (by omega), if_pos (by omega), e1]
    refine ih (i + 1) k _ (by omega) (by omega) ?_ (by omega)
    have hil : i < l.length := by omega
    rw [ha, List.take_add_one, List.getElem?_eq_getElem hil, rd_get hil, List.map_append]
    rfl

theorem real_tells (l : List S27) (hl : l.length ≤ 1000) (k : Nat) (hk : l.length < k) : ogivelaw10_real.f k l = some (l.map to30) := by
  unfold ogivelaw10_real.f
  exact real_loop l hl l.length 0 k [] (by omega) (by omega) (by simp) hk

theorem same_loop (l : List S30) (hl : l.length ≤ 1000) : ∀ (d i k : Nat), l.length - i = d → i ≤ l.length → d < k → ogiveref10_Same.l0 k l l (i : Int) = some true := by
  intro d
  induction d with
  | zero =>
    intro i k hd hi hk
    obtain ⟨k, rfl⟩ : ∃ q, k = q + 1 := ⟨k - 1, by omega⟩
    simp only [ogiveref10_Same.l0]
    rw [if_neg (by omega)]
  | succ d ih =>
    intro i k hd hi hk
    obtain ⟨k, rfl⟩ : ∃ q, k = q + 1 := ⟨k - 1, by omega⟩
    have e1 : wrap64 ((i : Int) + 1) = ((i + 1 : Nat) : Int) := by unfold wrap64; omega
    simp only [ogiveref10_Same.l0]
    rw [if_pos (by omega), if_pos (by omega), if_pos (by omega), if_neg (by simp), e1]
    exact ih (i + 1) k (by omega) (by omega) (by omega)

theorem same_tells (l : List S30) (hl : l.length ≤ 1000) (k : Nat) (hk : l.length < k) : ogiveref10_Same.f k l l = some true := by
  unfold ogiveref10_Same.f
  rw [if_pos rfl]
  exact same_loop l hl l.length 0 k (by omega) (by omega) hk
end Go.Proofs.Ytdiahlfhcbcceaa.Pure
