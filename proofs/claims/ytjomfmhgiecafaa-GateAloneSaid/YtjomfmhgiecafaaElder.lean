/- What Elder tells of a list. -/
import Derived.Test.YtjomfmhgiecafaaPx3
namespace Go.Proofs.Ytjomfmhgiecafaa.Pure
open Go.RowKit Go.Proofs.Ytjomfmhgiecafaa.P Go.Proofs.YtjomfmhgiecafaaW.PrintWords Go.Proofs.YtjomfmhgiecafaaW.PrintLast

def agedB (x : S29) (n : Int) : Bool := decide (x.f0 > 0) && decide (x.f1 ≥ n)
theorem aged_f (x : S29) (n : Int) : gate_Aged.f x.f0 x.f1 x.f2 x.f3 n = some (agedB x n) := by
  unfold gate_Aged.f agedB
  by_cases h : x.f0 > 0
  · rw [if_pos h]; simp [h]
  · rw [if_neg h]; simp [h]

theorem elder_round (l : List S29) (n a i : Int) (k : Nat) (hi0 : 0 ≤ i) (hi : i < (l.length : Int)) (hlen : (l.length : Int) ≤ 1000) (ha : a < 0 ∨ (0 ≤ a ∧ a < (l.length : Int))) :
    gate_Elder.l0 (k + 1) l n a l (l.length : Int) i = gate_Elder.l0 k l n (if agedB (rd_T29 l i) n = true ∧ (a < 0 ∨ (rd_T29 l i).f0 < (rd_T29 l a).f0) then i else a) l (l.length : Int) (i + 1) := by
  have e : wrap64 (i + 1) = i + 1 := by unfold wrap64; omega
  simp only [gate_Elder.l0]
  rw [if_pos hi, if_pos hi0, if_pos hi, aged_f, e]
  simp only [Option.bind_some]
  by_cases h1 : agedB (rd_T29 l i) n = true
  · rw [if_pos h1]
    by_cases h2 : a < 0
    · rw [if_pos h2, if_pos ⟨h1, .inl h2⟩]
    · rw [if_neg h2, if_pos (by omega), if_pos (by omega)]
      by_cases h3 : (rd_T29 l i).f0 < (rd_T29 l a).f0
      · rw [if_pos h3, if_pos ⟨h1, .inr h3⟩]
      · rw [if_neg h3, if_neg (fun h => h.2.elim h2 h3)]
  · rw [if_neg h1, if_neg (fun h => h1 h.1)]

/-- How it stands when i of them have been looked at. -/
def Stand (l : List S29) (n a i : Int) : Prop :=
  (a = -1 ∨ (0 ≤ a ∧ a < i ∧ agedB (rd_T29 l a) n = true)) ∧ ∀ j, 0 ≤ j → j < i → agedB (rd_T29 l j) n = true → 0 ≤ a ∧ (rd_T29 l a).f0 ≤ (rd_T29 l j).f0

theorem stand_next {l : List S29} {n a i : Int} (h : Stand l n a i) (h0 : 0 ≤ i) :
    Stand l n (if agedB (rd_T29 l i) n = true ∧ (a < 0 ∨ (rd_T29 l i).f0 < (rd_T29 l a).f0) then i else a) (i + 1) := by
  obtain ⟨h1, h2⟩ := h
  by_cases hc : agedB (rd_T29 l i) n = true ∧ (a < 0 ∨ (rd_T29 l i).f0 < (rd_T29 l a).f0)
  · rw [if_pos hc]
    refine ⟨.inr ⟨h0, by omega, hc.1⟩, fun j j0 j1 ja => ⟨h0, ?_⟩⟩
    by_cases hj : j = i
    · rw [hj]; exact Int.le_refl _
    · have := h2 j j0 (by omega) ja
      rcases hc.2 with hn | hn <;> omega
  · rw [if_neg hc]
    refine ⟨?_, fun j j0 j1 ja => ?_⟩
    · rcases h1 with h1 | ⟨x, y, z⟩
      · exact .inl h1
      · exact .inr ⟨x, by omega, z⟩
    · by_cases hj : j = i
      · rw [hj] at ja ⊢
        rcases h1 with h1 | ⟨x, y, z⟩
        · exact absurd ⟨ja, .inl (by omega)⟩ hc
        · refine ⟨x, ?_⟩
          apply Int.not_lt.1
          exact fun hlt => hc ⟨ja, .inr hlt⟩
      · exact h2 j j0 (by omega) ja

theorem elder_run (l : List S29) (n : Int) (hlen : (l.length : Int) ≤ 1000) (d : Nat) : ∀ (k : Nat) (a i : Int), (l.length : Int) - i = d → d < k → 0 ≤ i → Stand l n a i →
    ∃ e, gate_Elder.l0 k l n a l (l.length : Int) i = some e ∧ Stand l n e (l.length : Int) := by
  induction d with
  | zero =>
    intro k a i hd hk h0 hs
    obtain ⟨k, rfl⟩ : ∃ q, k = q + 1 := ⟨k - 1, by omega⟩
    have hi : i = (l.length : Int) := by omega
    refine ⟨a, ?_, hi ▸ hs⟩
    simp only [gate_Elder.l0]
    rw [if_neg (by omega)]
  | succ d ih =>
    intro k a i hd hk h0 hs
    obtain ⟨k, rfl⟩ : ∃ q, k = q + 1 := ⟨k - 1, by omega⟩
    rw [elder_round l n a i k h0 (by omega) hlen (by rcases hs.1 with h | ⟨x, y, _⟩ <;> omega)]
    exact ih k _ (i + 1) (by omega) (by omega) (by omega) (stand_next hs h0)

theorem elder_tells (l : List S29) (n : Int) (hlen : (l.length : Int) ≤ 1000) : ∃ e, (∀ k, l.length < k → gate_Elder.f k l n = some e) ∧ Stand l n e (l.length : Int) := by
  have h0 : Stand l n (-1) 0 := ⟨.inl rfl, fun j a b => by omega⟩
  obtain ⟨e, he, hs⟩ := elder_run l n hlen l.length (l.length + 1) (-1) 0 (by omega) (by omega) (by omega) h0
  refine ⟨e, fun k hk => ?_, hs⟩
  exact at_rounds (g := fun k => gate_Elder.f k l n) (gate_Elder.mono l n) (k := l.length + 1) hk he

/-- Two lists in which the same ones are aged, and stand in the same order. -/
theorem elder_same (l m : List S29) (n : Int) (hlen : (l.length : Int) ≤ 1000) (hm : m.length = l.length) (ha : ∀ i, 0 ≤ i → i < (l.length : Int) → agedB (rd_T29 m i) n = agedB (rd_T29 l i) n)
    (ho : ∀ i j, 0 ≤ i → i < (l.length : Int) → 0 ≤ j → j < (l.length : Int) → agedB (rd_T29 l i) n = true → agedB (rd_T29 l j) n = true → ((rd_T29 m i).f0 < (rd_T29 m j).f0 ↔ (rd_T29 l i).f0 < (rd_T29 l j).f0)) (d : Nat) :
    ∀ (k : Nat) (a i : Int), (l.length : Int) - i = d → d < k → 0 ≤ i → Stand l n a i → gate_Elder.l0 k m n a m (l.length : Int) i = gate_Elder.l0 k l n a l (l.length : Int) i := by
  induction d with
  | zero =>
    intro k a i hd hk h0 hs
    obtain ⟨k, rfl⟩ : ∃ q, k = q + 1 := ⟨k - 1, by omega⟩
    simp only [gate_Elder.l0]
    rw [if_neg (by omega), if_neg (by omega)]
  | succ d ih =>
    intro k a i hd hk h0 hs
    obtain ⟨k, rfl⟩ : ∃ q, k = q + 1 := ⟨k - 1, by omega⟩
    have hab : a < 0 ∨ (0 ≤ a ∧ a < (l.length : Int)) := by rcases hs.1 with h | ⟨x, y, _⟩ <;> omega
    have e1 := elder_round l n a i k h0 (by omega) hlen hab
    have e2 := elder_round m n a i k h0 (by omega) (by omega) (by omega)
    rw [hm] at e2
    rw [e1, e2]
    have hc : (agedB (rd_T29 m i) n = true ∧ (a < 0 ∨ (rd_T29 m i).f0 < (rd_T29 m a).f0)) ↔ (agedB (rd_T29 l i) n = true ∧ (a < 0 ∨ (rd_T29 l i).f0 < (rd_T29 l a).f0)) := by
      rw [ha i h0 (by omega)]
      constructor
      · rintro ⟨h1, h2⟩
        refine ⟨h1, ?_⟩
        rcases hs.1 with h | ⟨x, y, z⟩
        · exact .inl (by omega)
        · rcases h2 with h2 | h2
          · exact .inl h2
          · exact .inr ((ho i a h0 (by omega) x (by omega) h1 z).1 h2)
      · rintro ⟨h1, h2⟩
        refine ⟨h1, ?_⟩
        rcases hs.1 with h | ⟨x, y, z⟩
        · exact .inl (by omega)
        · rcases h2 with h2 | h2
          · exact .inl h2
          · exact .inr ((ho i a h0 (by omega) x (by omega) h1 z).2 h2)
    have hif : (if agedB (rd_T29 m i) n = true ∧ (a < 0 ∨ (rd_T29 m i).f0 < (rd_T29 m a).f0) then i else a) = (if agedB (rd_T29 l i) n = true ∧ (a < 0 ∨ (rd_T29 l i).f0 < (rd_T29 l a).f0) then i else a) := by
      by_cases h : agedB (rd_T29 l i) n = true ∧ (a < 0 ∨ (rd_T29 l i).f0 < (rd_T29 l a).f0)
      · rw [if_pos h, if_pos (hc.2 h)]
      · rw [if_neg h, if_neg (fun x => h (hc.1 x))]
    rw [hif]
    exact ih k _ (i + 1) (by omega) (by omega) (by omega) (stand_next hs h0)
end Go.Proofs.Ytjomfmhgiecafaa.Pure
