/- Chains as lists: what May and Look tell of them. -/
import Derived.Test.YtdiahlfhcbcceaaPx3
import Derived.Test.YtdiahlfhcbcceaaPx5
namespace Go.Proofs.Ytdiahlfhcbcceaa.Pure
open Go.RowKit Go.Proofs.Ytdiahlfhcbcceaa.P

def Sorted (l : List S27) : Prop := l.Pairwise fun a b => a.f0 < b.f0
def Fair (l : List S27) : Prop := ∀ x ∈ l, 0 ≤ x.f0 ∧ x.f0 ≤ x.f1
def Good (l : List S27) : Prop := Sorted l ∧ Fair l ∧ ∃ x r, l = x :: r ∧ x.f3 = true

theorem rd_get {l : List S27} {i : Nat} (h : i < l.length) : rd_T27 l (i : Int) = l[i] := by
  unfold rd_T27
  rw [Int.toNat_natCast, List.getD_eq_getElem?_getD, List.getElem?_eq_getElem h]
  rfl

def tailOK (l : List S27) (i : Nat) : Prop := ∀ j : Nat, i ≤ j → j < l.length → 0 ≤ (rd_T27 l (j : Int)).f0 ∧ (rd_T27 l (j : Int)).f0 ≤ (rd_T27 l (j : Int)).f1 ∧ (0 < j → (rd_T27 l ((j : Int) - 1)).f0 < (rd_T27 l (j : Int)).f0)
def headOK (l : List S27) : Prop := 0 < l.length ∧ (rd_T27 l 0).f3 = true

theorem may_loop (l : List S27) (hl : l.length ≤ 1000) : ∀ (d k i : Nat), l.length - i = d → i ≤ l.length → d < k → ∃ b, chain_May.l0 k l l (l.length : Int) (i : Int) = some b ∧ (b = true ↔ tailOK l i ∧ headOK l) := by
  intro d
  induction d with
  | zero =>
    intro k i hd hi hk
    obtain ⟨k, rfl⟩ : ∃ q, k = q + 1 := ⟨k - 1, by omega⟩
    have ht : tailOK l i := fun j h1 h2 => by omega
    simp only [chain_May.l0]
    rw [if_neg (by omega)]
    by_cases h0 : 0 < l.length
    · rw [if_pos (by omega), if_pos (by omega)]
      exact ⟨_, rfl, fun h => ⟨ht, h0, h⟩, fun h => h.2.2⟩
    · rw [if_neg (by omega)]
      exact ⟨_, rfl, fun h => (by cases h), fun h => absurd h.2.1 h0⟩
  | succ d ih =>
    intro k i hd hi hk
    obtain ⟨k, rfl⟩ : ∃ q, k = q + 1 := ⟨k - 1, by omega⟩
    obtain ⟨b, hb, hiff⟩ := ih k (i + 1) (by omega) (by omega) (by omega)
    have e1 : wrap64 ((i : Int) + 1) = ((i + 1 : Nat) : Int) := by unfold wrap64; omega
    simp only [chain_May.l0]
    rw [if_pos (by omega), if_pos (by omega), if_pos (by omega), e1, hb]
    by_cases c1 : (rd_T27 l (i : Int)).f0 < 0
    · rw [if_pos c1]
      exact ⟨_, rfl, fun h => (by cases h), fun h => by have := (h.1 i (Nat.le_refl _) (by omega)).1; omega⟩
    · rw [if_neg c1]
      by_cases c2 : (rd_T27 l (i : Int)).f1 < (rd_T27 l (i : Int)).f0
      · rw [if_pos c2]
        exact ⟨_, rfl, fun h => (by cases h), fun h => by have := (h.1 i (Nat.le_refl _) (by omega)).2.1; omega⟩
      · rw [if_neg c2]
        have next : (0 < i → (rd_T27 l ((i : Int) - 1)).f0 < (rd_T27 l (i : Int)).f0) → (b = true ↔ tailOK l i ∧ headOK l) := by
          intro h0
          rw [hiff]
          constructor
          · rintro ⟨ht, hh⟩
            refine ⟨fun j h1 h2 => ?_, hh⟩
            rcases Nat.lt_or_ge i j with h | h
            · exact ht j h h2
            · obtain rfl : i = j := by omega
              exact ⟨by omega, by omega, h0⟩
          · rintro ⟨ht, hh⟩
            exact ⟨fun j h1 h2 => ht j (by omega) h2, hh⟩
        by_cases c3 : (i : Int) > 0
        · have e2 : wrap64 ((i : Int) - 1) = (i : Int) - 1 := by unfold wrap64; omega
          rw [if_pos c3, e2, if_pos (by omega), if_pos (by omega)]
          by_cases c4 : (rd_T27 l (i : Int)).f0 ≤ (rd_T27 l ((i : Int) - 1)).f0
          · rw [if_pos c4]
            exact ⟨_, rfl, fun h => (by cases h), fun h => by have := (h.1 i (Nat.le_refl _) (by omega)).2.2 (by omega); omega⟩
          · rw [if_neg c4]
            exact ⟨b, rfl, next (fun _ => by omega)⟩
        · rw [if_neg c3]
          exact ⟨b, rfl, next (fun h => absurd h (by omega))⟩

theorem good_iff (l : List S27) : tailOK l 0 ∧ headOK l ↔ Good l := by
  constructor
  · rintro ⟨ht, h0, hd⟩
    have step : ∀ (d i j : Nat), j = i + d + 1 → j < l.length → (rd_T27 l (i : Int)).f0 < (rd_T27 l (j : Int)).f0 := by
      intro d
      induction d with
      | zero =>
        intro i j hj hl
        have := (ht j (Nat.zero_le _) hl).2.2 (by omega)
        have e : (j : Int) - 1 = (i : Int) := by omega
        rw [e] at this
        exact this
      | succ d ih =>
        intro i j hj hl
        have h1 := ih i (j - 1) (by omega) (by omega)
        have h2 := (ht j (Nat.zero_le _) hl).2.2 (by omega)
        have e : (j : Int) - 1 = ((j - 1 : Nat) : Int) := by omega
        rw [e] at h2
        omega
    refine ⟨?_, ?_, ?_⟩
    · unfold Sorted
      rw [List.pairwise_iff_getElem]
      intro i j hi hj hij
      have := step (j - i - 1) i j (by omega) hj
      rw [rd_get hi, rd_get hj] at this
      exact this
    · intro x hx
      obtain ⟨i, hi, rfl⟩ := List.getElem_of_mem hx
      have := ht i (Nat.zero_le _) hi
      rw [rd_get hi] at this
      exact ⟨this.1, this.2.1⟩
    · cases l with
      | nil => simp at h0
      | cons x r => exact ⟨x, r, rfl, hd⟩
  · rintro ⟨hs, hf, x, r, rfl, hx⟩
    refine ⟨fun j _ hj => ?_, by simp, hx⟩
    have h1 := hf _ (List.getElem_mem hj)
    rw [rd_get hj]
    refine ⟨h1.1, h1.2, fun h0 => ?_⟩
    have e : (j : Int) - 1 = ((j - 1 : Nat) : Int) := by omega
    rw [e, rd_get (show j - 1 < (x :: r).length by omega)]
    unfold Sorted at hs
    rw [List.pairwise_iff_getElem] at hs
    exact hs (j - 1) j (by omega) hj (by omega)

theorem may_any (l : List S27) (hl : l.length ≤ 1000) (k : Nat) (hk : l.length < k) : ∃ b, chain_May.f k l = some b ∧ (b = true ↔ Good l) := by
  obtain ⟨b, hb, hiff⟩ := may_loop l hl l.length k 0 (by omega) (by omega) hk
  rw [good_iff] at hiff
  exact ⟨b, hb, hiff⟩
theorem may_good {l : List S27} (hg : Good l) (hl : l.length ≤ 1000) (k : Nat) (hk : l.length < k) : chain_May.f k l = some true := by
  obtain ⟨b, hb, hiff⟩ := may_any l hl k hk
  rw [hb, hiff.2 hg]
theorem may_bad {l : List S27} (hg : ¬ Good l) (hl : l.length ≤ 1000) (k : Nat) (hk : l.length < k) : chain_May.f k l = some false := by
  obtain ⟨b, hb, hiff⟩ := may_any l hl k hk
  cases b with
  | false => exact hb
  | true => exact absurd (hiff.1 rfl) hg

/-- The place that a timestamp sees parts the chain. -/
structure Parts (l : List S27) (ts : Int) (pre : List S27) (x : S27) (post : List S27) : Prop where
  eq : l = pre ++ x :: post
  pre : ∀ y ∈ pre, y.f0 < x.f0
  at_ : x.f0 ≤ ts
  post : ∀ y ∈ post, ts < y.f0

theorem parts_of (l : List S27) (hs : Sorted l) (ts : Int) : (∀ y ∈ l, ts < y.f0) ∨ ∃ pre x post, Parts l ts pre x post := by
  induction l with
  | nil => exact .inl fun y hy => by cases hy
  | cons a r ih =>
    unfold Sorted at hs
    rw [List.pairwise_cons] at hs
    by_cases h : a.f0 ≤ ts
    · rcases ih hs.2 with h' | ⟨pre, x, post, hp⟩
      · exact .inr ⟨[], a, r, rfl, fun y hy => (by cases hy), h, h'⟩
      · refine .inr ⟨a :: pre, x, post, by rw [hp.eq]; rfl, fun y hy => ?_, hp.at_, hp.post⟩
        rcases List.mem_cons.1 hy with rfl | hy
        · exact hs.1 x (by rw [hp.eq]; simp)
        · exact hp.pre y hy
    · refine .inl fun y hy => ?_
      rcases List.mem_cons.1 hy with rfl | hy
      · omega
      · have := hs.1 y hy; omega

theorem firstBehind_at (l : List S27) (ts : Int) (n : Nat) (hlow : ∀ i : Nat, i < n → (rd_T27 l (i : Int)).f0 ≤ ts) : ∀ d, d ≤ l.length → l.length - d ≤ n → (n < l.length → (rd_T27 l (n : Int)).f0 > ts) → n ≤ l.length → firstBehind l ts d = if n < l.length then (n : Int) else -1 := by
  intro d
  induction d with
  | zero =>
    intro _ h1 _ h2
    rw [if_neg (by omega)]
    rfl
  | succ d ih =>
    intro hd h1 hn h2
    rw [firstBehind]
    have e : (l.length : Int) - ((d : Int) + 1) = ((l.length - (d + 1) : Nat) : Int) := by omega
    rw [e]
    rcases Nat.lt_or_ge (l.length - (d + 1)) n with h | h
    · rw [if_neg (by have := hlow _ h; omega)]
      exact ih (by omega) (by omega) hn h2
    · obtain rfl : n = l.length - (d + 1) := by omega
      rw [if_pos (hn (by omega)), if_pos (by omega)]

theorem look_parts {l : List S27} {ts : Int} {pre : List S27} {x : S27} {post : List S27} (hp : Parts l ts pre x post) (hg : Good l) (hl : l.length ≤ 1000) (k : Nat) (hk : l.length < k) : chain_Look.f k l ts = some (pre.length : Int) := by
  have hlen : l.length = pre.length + 1 + post.length := by rw [hp.eq]; simp; omega
  have hlow : ∀ i : Nat, i < pre.length + 1 → (rd_T27 l (i : Int)).f0 ≤ ts := by
    intro i hi
    rw [rd_get (show i < l.length by omega)]
    have hat := hp.at_
    rcases Nat.lt_or_ge i pre.length with h | h
    · have hm : l[i]'(by omega) ∈ pre := by
        have : l[i]'(by omega) = pre[i] := by simp only [hp.eq]; rw [List.getElem_append_left h]
        rw [this]; exact List.getElem_mem h
      have := hp.pre _ hm
      omega
    · obtain rfl : i = pre.length := by omega
      have : l[pre.length]'(by omega) = x := by simp only [hp.eq]; simp
      rw [this]; exact hat
  have hn : pre.length + 1 < l.length → (rd_T27 l ((pre.length + 1 : Nat) : Int)).f0 > ts := by
    intro h
    rw [rd_get h]
    have hm : l[pre.length + 1] ∈ post := by
      have h0 : 0 < post.length := by omega
      have : l[pre.length + 1] = post[0] := by simp only [hp.eq]; rw [List.getElem_append_right (by omega)]; simp
      rw [this]; exact List.getElem_mem h0
    exact hp.post _ hm
  have hfb := firstBehind_at l ts (pre.length + 1) hlow l.length (Nat.le_refl _) (by omega) hn (by omega)
  unfold chain_Look.f
  rw [may_good hg hl k hk, hfb]
  simp only [Option.bind_some, if_true]
  by_cases h : pre.length + 1 < l.length
  · rw [if_pos h, if_neg (by omega)]
    congr 1
    omega
  · rw [if_neg h, if_pos (by omega)]
    congr 1
    omega

theorem look_none {l : List S27} {ts : Int} (hp : ∀ y ∈ l, ts < y.f0) (hg : Good l) (hl : l.length ≤ 1000) (k : Nat) (hk : l.length < k) : chain_Look.f k l ts = some (-1) := by
  obtain ⟨_, _, x, r, rfl, _⟩ := id hg
  have hfb := firstBehind_at (x :: r) ts 0 (fun i hi => by omega) (x :: r).length (Nat.le_refl _) (by omega) (fun _ => hp x List.mem_cons_self) (by omega)
  unfold chain_Look.f
  rw [may_good hg hl k hk, hfb]
  simp

theorem look_bad {l : List S27} {ts : Int} (hg : ¬ Good l) (hl : l.length ≤ 1000) (k : Nat) (hk : l.length < k) : chain_Look.f k l ts = some (-1) := by
  unfold chain_Look.f
  rw [may_bad hg hl k hk]
  rfl
end Go.Proofs.Ytdiahlfhcbcceaa.Pure
