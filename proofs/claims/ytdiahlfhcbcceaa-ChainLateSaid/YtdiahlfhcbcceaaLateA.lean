/- ChainLate: the plain law. -/
import Derived.Test.YtdiahlfhcbcceaaPureChainStays
import Derived.Test.YtdiahlfhcbcceaaChainD
namespace Go.Proofs.Ytdiahlfhcbcceaa.Pure
open Go.RowKit Go.Proofs.Ytdiahlfhcbcceaa.P

theorem late_yes {l : List S27} (hI : Inv l) (hl : l.length ≤ 61) {b : Int} (v : ByteArray) {pre : List S27} {x : S27} {post : List S27} (hp : Parts l b pre x post) (h : x.f1 > b ∨ (x.f0 = b ∧ x.f3 = true)) : chain_Write.f 1000 l b v = some (l, 8) := by
  rw [write_tells hp hI.good (by omega) v 1000 (by omega)]
  by_cases c1 : x.f1 > b
  · rw [if_pos c1]
  · rcases h with h | ⟨h0, h3⟩
    · exact absurd h c1
    · rw [if_neg c1, if_neg (by omega), if_pos h3]

theorem late_no {l : List S27} (hI : Inv l) (hl : l.length ≤ 61) {b : Int} (hb : 1 ≤ b) (v : ByteArray) {pre : List S27} {x : S27} {post : List S27} (hp : Parts l b pre x post) (h1 : ¬ x.f1 > b) (h2 : ¬ (x.f0 = b ∧ x.f3 = true)) :
    ∃ l1 : List S27, chain_Write.f 1000 l b v = some (l1, 0) ∧ (∃ r o1, chain_Read.f 1000 l1 b = some (r, b, o1, v, false)) ∧
      (∃ r s0 s1 s2 s3, chain_Read.f 1000 l1 (b + 1) = some (r, s0, s1, s2, s3) ∧ ((∃ y q, post = y :: q ∧ y.f0 = b + 1) ∨ s2 = v)) ∧
      (∃ r r' t0 t1 t2 t3 u1 u3, chain_Read.f 1000 l1 (b - 1) = some (r, t0, t1, t2, t3) ∧ chain_Read.f 1000 l (b - 1) = some (r', t0, u1, t2, u3)) := by
  have hw := write_tells hp hI.good (by omega) v 1000 (by omega)
  rw [if_neg h1] at hw
  have hat := hp.at_
  have hlen := len_mid pre x post
  rw [← hp.eq] at hlen
  -- who is seen next, when the place at b holds y
  have next : ∀ (pre2 : List S27) (y : S27), y.f0 = b → y.f2 = v → (∀ z ∈ pre2, z.f0 < y.f0) → Inv (pre2 ++ y :: post) → (pre2 ++ y :: post).length ≤ 1000 - 1 → ∃ r s0 s1 s2 s3, chain_Read.f 1000 (pre2 ++ y :: post) (b + 1) = some (r, s0, s1, s2, s3) ∧ ((∃ y q, post = y :: q ∧ y.f0 = b + 1) ∨ s2 = v) := by
    intro pre2 y hy hv hpre hI2 hl2
    by_cases hn : ∃ y q, post = y :: q ∧ y.f0 = b + 1
    · obtain ⟨p3, z, q3, hp3⟩ := hI2.parts (show 0 ≤ b + 1 by omega)
      exact ⟨_, _, _, _, _, read_tells hp3 hI2.good (by omega) 1000 (by omega), .inl hn⟩
    · have hp3 : Parts (pre2 ++ y :: post) (b + 1) pre2 y post := by
        refine ⟨rfl, hpre, by omega, fun z hz => ?_⟩
        have h0 := hp.post z hz
        have hne : z.f0 ≠ b + 1 := by
          intro he
          obtain ⟨_, s2, _, _, _⟩ := sorted_mid.1 hI2.sorted
          cases post with
          | nil => cases hz
          | cons a q =>
            have ha := hp.post a (by simp)
            rcases List.mem_cons.1 hz with rfl | hz
            · exact hn ⟨_, _, rfl, he⟩
            · unfold Sorted at s2
              rw [List.pairwise_cons] at s2
              have := s2.1 z hz
              exact hn ⟨a, q, rfl, by omega⟩
        omega
      exact ⟨_, _, _, _, _, read_tells hp3 hI2.good (by omega) 1000 (by omega), .inr hv⟩
  by_cases c2 : x.f0 < b
  · rw [if_pos c2] at hw
    have hD : Did l 2 b v (pre ++ x :: ⟨b, b, v, false⟩ :: post) := .ins rfl hp (by omega) c2
    have hI1 := hD.inv hI
    have hlen1 := hD.len
    have e3 : pre ++ x :: ⟨b, b, v, false⟩ :: post = (pre ++ [x]) ++ ⟨b, b, v, false⟩ :: post := by simp
    have hpre : ∀ z ∈ pre ++ [x], z.f0 < b := by
      intro z hz
      rcases List.mem_append.1 hz with hz | hz
      · have := hp.pre z hz; omega
      · obtain rfl : z = x := by simpa using hz
        exact c2
    have hp1 : Parts (pre ++ x :: ⟨b, b, v, false⟩ :: post) b (pre ++ [x]) ⟨b, b, v, false⟩ post := ⟨e3, hpre, Int.le_refl _, hp.post⟩
    have hp4 : Parts (pre ++ x :: ⟨b, b, v, false⟩ :: post) (b - 1) pre x (⟨b, b, v, false⟩ :: post) := ⟨rfl, hp.pre, by omega, fun z hz => by
      rcases List.mem_cons.1 hz with rfl | hz
      · show b - 1 < b
        omega
      · have := hp.post z hz; omega⟩
    have hp5 : Parts l (b - 1) pre x post := ⟨hp.eq, hp.pre, by omega, fun z hz => by have := hp.post z hz; omega⟩
    have hn := next (pre ++ [x]) ⟨b, b, v, false⟩ rfl rfl hpre (by rw [← e3]; exact hI1) (by rw [← e3]; omega)
    rw [← e3] at hn
    exact ⟨_, hw, ⟨_, _, read_tells hp1 hI1.good (by omega) 1000 (by omega)⟩, hn, ⟨_, _, _, _, _, _, _, _, read_tells hp4 hI1.good (by omega) 1000 (by omega), read_tells hp5 hI.good (by omega) 1000 (by omega)⟩⟩
  · have hx0 : x.f0 = b := by omega
    have hx3 : ¬ x.f3 = true := fun h => h2 ⟨hx0, h⟩
    rw [if_neg c2, if_neg hx3] at hw
    have hf3 : x.f3 = false := by simpa using hx3
    have hD : Did l 2 b v (pre ++ valAt x v :: post) := .put rfl hp hx0
    have hI1 := hD.inv hI
    have hlen1 := hD.len
    have hp1 : Parts (pre ++ valAt x v :: post) b pre (valAt x v) post := ⟨rfl, hp.pre, hat, hp.post⟩
    have hn := next pre (valAt x v) hx0 rfl hp.pre hI1 (by omega)
    have hr1 := read_tells hp1 hI1.good (by omega) 1000 (by omega)
    have e0 : (valAt x v).f0 = b := hx0
    have e3 : (valAt x v).f3 = false := hf3
    rw [e0, e3] at hr1
    obtain ⟨p4, y, q4, hp4⟩ := hI.parts (show 0 ≤ b - 1 by omega)
    have hat4 := hp4.at_
    have hy : ∃ mid, pre = p4 ++ y :: mid ∧ q4 = mid ++ x :: post := by
      rcases parts_cmp hp hp4 with ⟨_, rfl, _⟩ | ⟨mid, _, rfl⟩ | h
      · omega
      · have := hp.post y (by simp); omega
      · exact h
    obtain ⟨mid, rfl, rfl⟩ := hy
    have hp5 : Parts ((p4 ++ y :: mid) ++ valAt x v :: post) (b - 1) p4 y (mid ++ valAt x v :: post) := ⟨by simp, hp4.pre, hat4, fun z hz => by
      rcases List.mem_append.1 hz with hz | hz
      · exact hp4.post z (by simp [hz])
      · rcases List.mem_cons.1 hz with rfl | hz
        · show b - 1 < x.f0
          omega
        · exact hp4.post z (by simp [hz])⟩
    exact ⟨_, hw, ⟨_, _, hr1⟩, hn, ⟨_, _, _, _, _, _, _, _, read_tells hp5 hI1.good (by omega) 1000 (by omega), read_tells hp4 hI.good (by omega) 1000 (by omega)⟩⟩
end Go.Proofs.Ytdiahlfhcbcceaa.Pure
